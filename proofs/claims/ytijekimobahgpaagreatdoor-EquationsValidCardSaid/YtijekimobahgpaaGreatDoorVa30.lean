/- A part of the proof. -/
import Derived.Test.YtijekimobahgpaaGreatDoorVa11
set_option linter.unusedVariables false
set_option linter.unusedSimpArgs false
set_option linter.unusedSectionVars false
set_option maxRecDepth 100000
set_option maxHeartbeats 16000000
namespace Go.Proofs.YtijekimobahgpaaGreatDoor
section
namespace R
open Go.RowKit
variable [Base]
theorem rname_sv (s:Str)(w:World):Calls Tryz.prog 175 #[sv s] w (Qde (QV s) w):=Qsk ⟨s.toArray⟩ w
structure PSt (B bp:Nat)(T:List Tok)(s:PS)(w:World):Prop where
 kw:KwIn B w
 ge:B≤bp
 blk:∃a c,w.heap[bp]? = some (.cells #[.slice a T.length c,.int .i64 s.at_,.int .i64 s.err] 227 (0,0))∧QFb w (.slice a T.length c) T
 le:s.at_≤T.length
 er:0≤s.err∧s.err≤100
section
variable {B bp:Nat} {T:List Tok} {s:PS} {w w':World}
theorem PSt.lt (h:PSt B bp T s w):bp<w.heap.size:=by
 obtain⟨a,c,hb,_⟩:=h.blk;exact Qb hb
theorem PSt.keep (h:PSt B bp T s w)(hb:w'.heap[bp]? = w.heap[bp]?)(hB:∀k,k<B→w'.heap[k]? = w.heap[k]?)(hT:Qf 232 w w'):PSt B bp T s w':=by
 obtain⟨a,c,h1,h2⟩:=h.blk;exact⟨h.kw.keep hB,h.ge,⟨a,c,hb.trans h1,h2.same hT⟩,h.le,h.er⟩
theorem PSt.below (h:PSt B bp T s w)(hb:Below w.heap.size w w'):PSt B bp T s w':=
 h.keep (hb.block bp h.lt) (fun k hk=>hb.block k (by have:=h.lt;have:=h.ge;omega)) (Qf.below hb)
theorem PSt.drewN (h:PSt B bp T s w)(n:Nat):PSt B bp T s (w.drewN n):=h.keep rfl (fun _ _=>rfl) Qf.drewN
theorem PSt.alloc (h:PSt B bp T s w)(o:Obj):PSt B bp T s (w.alloc o):=h.below (Zb)
end
def SP (B bp:Nat)(T:List Tok)(s':PS)(v:Value)(w:World)(e:Ending)(w':World):Prop:=e=.returned v∧PSt B bp T s' w'∧But bp w w'
theorem PSt.setErr {B bp:Nat}{T:List Tok}{s:PS}{w:World}(h:PSt B bp T s w)(e:Int)(he:0≤e∧e≤100):PSt B bp T ⟨s.at_,e⟩ (w.setCell ⟨bp,2,none⟩ (.int .i64 e)):=by
 obtain⟨a,c,h1,h2⟩:=h.blk;have hbs:=h.kw.bs;have hge:=h.ge;have hB:∀k,k<B→(w.setCell ⟨bp,2,none⟩ (.int .i64 e)).heap[k]? = w.heap[k]?:=fun k hk=>Below.heap_setCell _ _ _ _ (by have:=h.ge;show k≠bp;omega)
 exact⟨h.kw.keep hB,h.ge,⟨a,c,Qju h1 _,h2.same (Qf.setCell (U:=227) (Qv h1) ZD)⟩,h.le,he⟩
theorem PSt.setAt {B bp:Nat}{T:List Tok}{s:PS}{w:World}(h:PSt B bp T s w)(k:Nat)(hk:k≤T.length):PSt B bp T ⟨k,s.err⟩ (w.setCell ⟨bp,1,none⟩ (.int .i64 k)):=by
 obtain⟨a,c,h1,h2⟩:=h.blk;have hbs:=h.kw.bs;have hge:=h.ge;have hB:∀i,i<B→(w.setCell ⟨bp,1,none⟩ (.int .i64 k)).heap[i]? = w.heap[i]?:=fun i hi=>Below.heap_setCell _ _ _ _ (by have:=h.ge;show i≠bp;omega)
 exact⟨h.kw.keep hB,h.ge,⟨a,c,Qku h1 _,h2.same (Qf.setCell (U:=227) (Qv h1) ZD)⟩,hk,h.er⟩
theorem Qtb {B bp:Nat}{T:List Tok}{s:PS}{w:World}(h:PSt B bp T s w)(e:Int)(he:0≤e∧e≤100):
  Calls Tryz.prog 173 #[.pointer (some ⟨bp,0,none⟩),.int .i64 e] w (SP B bp T (s.fail e) (.tuple #[]) w):=by
 obtain⟨a,c,hb,_⟩:=h.blk;have c2:=(Qd hb).1 2;have f2:=(Qd hb).2 2;simp at c2;have H:=Zh h;clear h hb;by_cases h0:s.err=0
 ·have e1:s.fail e=⟨s.at_,e⟩:=by unfold PS.fail;rw[if_pos h0]
  rw[e1];rw[h0] at c2;clear h0 e1;go_enter Tryz.func173,Tryz.ntmps173;go_wp2;go_end0;exact⟨rfl,H.o.setErr e he,(But.refl bp _).setCell ⟨bp,2,none⟩ (.inl rfl) _⟩
 ·have e1:s.fail e=s:=Qdf h0 e;rw[e1];have h1:(s.err==0)=false:=by rw[beq_eq_false_iff_ne];exact h0
  clear h0 e1;go_enter Tryz.func173,Tryz.ntmps173;go_wp2;go_end0;exact⟨rfl,H.o,But.refl _ _⟩
theorem Qtu {B bp:Nat}{T:List Tok}{s:PS}{w:World}(h:PSt B bp T s w)(h0:s.err≠0)(x:Str):
  Calls Tryz.prog 172 #[.pointer (some ⟨bp,0,none⟩),sv x] w (SP B bp T s (.bool (isW T x s)) w):=by
 obtain⟨a,c,hb,hT⟩:=h.blk;have c0:=(Qd hb).1 0;have c1:=(Qd hb).1 1;have c2:=(Qd hb).1 2;simp at c0 c1 c2;have H:=Zh h;rw[Qpc h0 x];have hE:(s.err==0)=false:=by rw[beq_eq_false_iff_ne];exact h0
 clear h hb h0 hT;go_enter Tryz.func172,Tryz.ntmps172;go_wp2;go_quiet (fail);go_wp2;go_ret;exact⟨rfl,H.o.drewN _,(But.refl _ _).drewN _⟩
theorem Quu {B bp:Nat}{T:List Tok}{s:PS}{w:World}(h:PSt B bp T s w)(h0:s.err=0)(h2:s.at_=T.length)(x:Str):
  Calls Tryz.prog 172 #[.pointer (some ⟨bp,0,none⟩),sv x] w (SP B bp T s (.bool (isW T x s)) w):=by
 obtain⟨a,c,hb,hT⟩:=h.blk;have c0:=(Qd hb).1 0;have c1:=(Qd hb).1 1;have c2:=(Qd hb).1 2;simp at c0 c1 c2;have H:=Zh h;have e0:isW T x s=false:=by unfold isW PS.next;rw[if_pos h0,List.getElem?_eq_none ZO];simp
 rw[e0];rw[h0] at c2;rw[h2] at c1;obtain⟨n,hn⟩:=Ze T.length;rw[hn] at c0 c1;clear h hb h0 h2 e0 hT hn;go_enter Tryz.func172,Tryz.ntmps172;go_wp2;go_quiet (fail);go_wp2;go_ret;exact⟨rfl,H.o.drewN _,(But.refl _ _).drewN _⟩
theorem is_in {B bp:Nat}{T:List Tok}{s:PS}{w:World}(h:PSt B bp T s w)(h0:s.err=0){t:Tok}(ht:T[s.at_]? = some t)(x:Str):
  Calls Tryz.prog 172 #[.pointer (some ⟨bp,0,none⟩),sv x] w (SP B bp T s (.bool (isW T x s)) w):=by
 have en:s.next T=t:=by unfold PS.next;rw[if_pos h0,ht];rfl
 unfold isW;rw[en];clear en;obtain⟨a,c,hb,hT⟩:=h.blk;have c0:=(Qd hb).1 0;have c1:=(Qd hb).1 1;have c2:=(Qd hb).1 2;simp at c0 c1 c2;have H:=Zh h;have hin:s.at_<T.length:=(List.getElem?_eq_some_iff.1 ht).1;obtain⟨a',c',e1,hml,_,_,hcell⟩:=QFb.form hT;injection e1 with e1 e2 e3
 subst e1 e3;obtain⟨tb,off,rfl,htb,_,h4⟩:=hcell s.at_ t ht;obtain⟨k,y,l,cc⟩:=t;have t0:w.cell? ⟨tb,off+s.at_*4,none⟩=some (.int .i64 k):=h4 0 ZO;have t1:w.cell? ⟨tb,off+s.at_*4+1,none⟩=some (sv y):=h4 1 ZO;rw[h0] at c2;have hlt:=h.lt;clear h hb h0 ht hT hcell h4 e2;obtain⟨n,hn⟩:=Ze T.length;obtain⟨i,hi⟩:=Ze s.at_;rw[hn] at c0 hin hml;rw[hi] at c1 t0 t1 hin;unfold maxLen at hml;have hin2:(i:Int)<(n:Int):=by omega
 clear hn hi;show Calls _ _ _ w (SP B bp T s (.bool (k==1&&y==x)) w)
 cases hk:k==1
 ·have HK:=Zh hk;go_enter Tryz.func172,Tryz.ntmps172;go_wp2;go_quiet (fail);go_wp2;go_ret;exact⟨Qgb ZS,H.o.drewN _,(But.refl _ _).drewN _⟩
 ·have HK:=Zh hk;go_enter Tryz.func172,Tryz.ntmps172;go_wp2;go_quiet (fail);go_wp2;go_ret;exact⟨Qgb (by simp[sv]),H.o.drewN _,(But.refl _ _).drewN _⟩
theorem QDf {B bp:Nat}{T:List Tok}{s:PS}{w:World}(h:PSt B bp T s w)(x:Str):
  Calls Tryz.prog 172 #[.pointer (some ⟨bp,0,none⟩),sv x] w (SP B bp T s (.bool (isW T x s)) w):=by
 by_cases h0:s.err=0
 ·cases ht:T[s.at_]? with
 |some t=>exact is_in h h0 ht x
 |none=>
   have h1:=List.getElem?_eq_none_iff.1 ht;exact Quu h h0 (by have:=h.le;omega) x
 ·exact Qtu h h0 x
theorem Quo {B bp:Nat}{T:List Tok}{s:PS}{w:World}(h:PSt B bp T s w)(h0:s.err≠0)(kd:Int)(hkd:kd≠0):
  Calls Tryz.prog 246 #[.pointer (some ⟨bp,0,none⟩),.int .i64 kd] w (SP B bp T s (.bool (isK T kd s)) w):=by
 obtain⟨a,c,hb,hT⟩:=h.blk;have c0:=(Qd hb).1 0;have c1:=(Qd hb).1 1;have c2:=(Qd hb).1 2;simp at c0 c1 c2;have H:=Zh h;rw[QUf h0 hkd];have hE:(s.err==0)=false:=by rw[beq_eq_false_iff_ne];exact h0
 clear h hb h0 hT;go_enter Tryz.func246,Tryz.ntmps246;go_wp2;go_quiet (fail);go_wp2;go_ret;exact⟨rfl,H.o.drewN _,(But.refl _ _).drewN _⟩
theorem Qvo {B bp:Nat}{T:List Tok}{s:PS}{w:World}(h:PSt B bp T s w)(h0:s.err=0)(h2:s.at_=T.length)(kd:Int)(hkd:kd≠0):
  Calls Tryz.prog 246 #[.pointer (some ⟨bp,0,none⟩),.int .i64 kd] w (SP B bp T s (.bool (isK T kd s)) w):=by
 obtain⟨a,c,hb,hT⟩:=h.blk;have c0:=(Qd hb).1 0;have c1:=(Qd hb).1 1;have c2:=(Qd hb).1 2;simp at c0 c1 c2;have H:=Zh h;have e0:isK T kd s=false:=by unfold isK PS.next;rw[if_pos h0,List.getElem?_eq_none ZO];simp;omega
 rw[e0];rw[h0] at c2;rw[h2] at c1;obtain⟨n,hn⟩:=Ze T.length;rw[hn] at c0 c1;clear h hb h0 h2 e0 hT hn;go_enter Tryz.func246,Tryz.ntmps246;go_wp2;go_quiet (fail);go_wp2;go_ret;exact⟨rfl,H.o.drewN _,(But.refl _ _).drewN _⟩
theorem QXq {B bp:Nat}{T:List Tok}{s:PS}{w:World}(h:PSt B bp T s w)(h0:s.err=0){t:Tok}(ht:T[s.at_]? = some t)(kd:Int)(hkd:kd≠0):
  Calls Tryz.prog 246 #[.pointer (some ⟨bp,0,none⟩),.int .i64 kd] w (SP B bp T s (.bool (isK T kd s)) w):=by
 have en:s.next T=t:=by unfold PS.next;rw[if_pos h0,ht];rfl
 unfold isK;rw[en];clear en;obtain⟨a,c,hb,hT⟩:=h.blk;have c0:=(Qd hb).1 0;have c1:=(Qd hb).1 1;have c2:=(Qd hb).1 2;simp at c0 c1 c2;have H:=Zh h;have hin:s.at_<T.length:=(List.getElem?_eq_some_iff.1 ht).1;obtain⟨a',c',e1,hml,_,_,hcell⟩:=QFb.form hT;injection e1 with e1 e2 e3
 subst e1 e3;obtain⟨tb,off,rfl,htb,_,h4⟩:=hcell s.at_ t ht;obtain⟨k,y,l,cc⟩:=t;have t0:w.cell? ⟨tb,off+s.at_*4,none⟩=some (.int .i64 k):=h4 0 ZO;have t1:w.cell? ⟨tb,off+s.at_*4+1,none⟩=some (sv y):=h4 1 ZO;rw[h0] at c2;have hlt:=h.lt;clear h hb h0 ht hT hcell h4 e2;obtain⟨n,hn⟩:=Ze T.length;obtain⟨i,hi⟩:=Ze s.at_;rw[hn] at c0 hin hml;rw[hi] at c1 t0 t1 hin;unfold maxLen at hml;have hin2:(i:Int)<(n:Int):=by omega
 clear hn hi;show Calls _ _ _ w (SP B bp T s (.bool (k==kd)) w);go_enter Tryz.func246,Tryz.ntmps246;go_wp2;go_quiet (fail);go_wp2;go_ret;exact⟨rfl,H.o.drewN _,(But.refl _ _).drewN _⟩
theorem Qyg {B bp:Nat}{T:List Tok}{s:PS}{w:World}(h:PSt B bp T s w)(kd:Int)(hkd:kd≠0):
  Calls Tryz.prog 246 #[.pointer (some ⟨bp,0,none⟩),.int .i64 kd] w (SP B bp T s (.bool (isK T kd s)) w):=by
 by_cases h0:s.err=0
 ·cases ht:T[s.at_]? with
 |some t=>exact QXq h h0 ht kd hkd
 |none=>
   have h1:=List.getElem?_eq_none_iff.1 ht;exact Qvo h h0 (by have:=h.le;omega) kd hkd
 ·exact Quo h h0 kd hkd
theorem Qso {B bp:Nat}{T:List Tok}{s:PS}{w:World}(h:PSt B bp T s w)(h0:s.err≠0) :
  Calls Tryz.prog 245 #[.pointer (some ⟨bp,0,none⟩)] w (SP B bp T s (.bool (isN T s)) w):=by
 obtain⟨a,c,hb,hT⟩:=h.blk;have c0:=(Qd hb).1 0;have c1:=(Qd hb).1 1;have c2:=(Qd hb).1 2;simp at c0 c1 c2;have H:=Zh h;rw[Qoh h0];have hE:(s.err==0)=false:=by rw[beq_eq_false_iff_ne];exact h0
 clear h hb h0 hT;go_enter Tryz.func245,Tryz.ntmps245;go_wp2;go_quiet (fail);go_wp2;go_ret;exact⟨rfl,H.o.drewN _,(But.refl _ _).drewN _⟩
theorem Qto {B bp:Nat}{T:List Tok}{s:PS}{w:World}(h:PSt B bp T s w)(h0:s.err=0)(h2:s.at_=T.length) :
  Calls Tryz.prog 245 #[.pointer (some ⟨bp,0,none⟩)] w (SP B bp T s (.bool (isN T s)) w):=by
 obtain⟨a,c,hb,hT⟩:=h.blk;have c0:=(Qd hb).1 0;have c1:=(Qd hb).1 1;have c2:=(Qd hb).1 2;simp at c0 c1 c2;have H:=Zh h;have e0:isN T s=false:=by unfold isN PS.next;rw[if_pos h0,List.getElem?_eq_none ZO];simp
 rw[e0];rw[h0] at c2;rw[h2] at c1;obtain⟨n,hn⟩:=Ze T.length;rw[hn] at c0 c1;clear h hb h0 h2 e0 hT hn;go_enter Tryz.func245,Tryz.ntmps245;go_wp2;go_quiet (fail);go_wp2;go_ret;exact⟨rfl,H.o.drewN _,(But.refl _ _).drewN _⟩
end R
end
section
namespace R
open Go.RowKit
variable [Base]
theorem QWq {B bp:Nat}{T:List Tok}{s:PS}{w:World}(h:PSt B bp T s w)(h0:s.err=0){t:Tok}(ht:T[s.at_]? = some t) :
  Calls Tryz.prog 245 #[.pointer (some ⟨bp,0,none⟩)] w (SP B bp T s (.bool (isN T s)) w):=by
 have en:s.next T=t:=by unfold PS.next;rw[if_pos h0,ht];rfl
 unfold isN;rw[en];clear en;obtain⟨a,c,hb,hT⟩:=h.blk;have c0:=(Qd hb).1 0;have c1:=(Qd hb).1 1;have c2:=(Qd hb).1 2;simp at c0 c1 c2;have H:=Zh h;have hin:s.at_<T.length:=(List.getElem?_eq_some_iff.1 ht).1;obtain⟨a',c',e1,hml,_,_,hcell⟩:=QFb.form hT;injection e1 with e1 e2 e3
 subst e1 e3;obtain⟨tb,off,rfl,htb,_,h4⟩:=hcell s.at_ t ht;obtain⟨k,y,l,cc⟩:=t;have t0:w.cell? ⟨tb,off+s.at_*4,none⟩=some (.int .i64 k):=h4 0 ZO;have t1:w.cell? ⟨tb,off+s.at_*4+1,none⟩=some (sv y):=h4 1 ZO;rw[h0] at c2;have hlt:=h.lt;clear h hb h0 ht hT hcell h4 e2;obtain⟨n,hn⟩:=Ze T.length;obtain⟨i,hi⟩:=Ze s.at_;rw[hn] at c0 hin hml;rw[hi] at c1 t0 t1 hin;unfold maxLen at hml;have hin2:(i:Int)<(n:Int):=by omega
 clear hn hi;show Calls _ _ _ w (SP B bp T s (.bool (k==1&&QV y)) w)
 cases hk:k==1
 ·have HK:=Zh hk;go_enter Tryz.func245,Tryz.ntmps245;go_wp2;go_quiet (fail);go_wp2;go_ret;exact⟨Qgb ZS,H.o.drewN _,(But.refl _ _).drewN _⟩
 ·have HK:=Zh hk;go_enter Tryz.func245,Tryz.ntmps245;go_wp2;go_region_held3 (fun w'=>w'.cell? ⟨bp,0,none⟩=some (.slice (some ⟨tb,off,none⟩) n c)∧w'.cell? ⟨bp,1,none⟩=some (.int .i64 i)∧w'.cell? ⟨bp,2,none⟩=some (.int .i64 0)∧w'.cell? ⟨tb,off+i*4,none⟩=some (.int .i64 k)∧w'.cell? ⟨tb,off+i*4+1,none⟩=some (sv y)) (go_keep) ((go_at_call 175;refine(rname_sv y _).mono ?_;rintro e w2 ⟨rfl,hbel⟩;have b2:=Zh hbel;have d0:=(hbel.cell (p:=⟨bp,0,none⟩) (show bp<w.heap.size from hlt)).trans c0;have d1:=(hbel.cell (p:=⟨bp,1,none⟩) (show bp<w.heap.size from hlt)).trans c1;have d2:=(hbel.cell (p:=⟨bp,2,none⟩) (show bp<w.heap.size from hlt)).trans c2;have d3:=(hbel.cell (p:=⟨tb,off+i*4,none⟩) (show tb<w.heap.size from htb)).trans t0;have d4:=(hbel.cell (p:=⟨tb,off+i*4+1,none⟩) (show tb<w.heap.size from htb)).trans t1;clear hbel));go_wp2;go_ret;exact⟨Qgb ZS,(H.o.drewN 1).below b2.o,((But.refl bp w).drewN 1).below b2.o⟩
theorem QCa {B bp:Nat}{T:List Tok}{s:PS}{w:World}(h:PSt B bp T s w) :
  Calls Tryz.prog 245 #[.pointer (some ⟨bp,0,none⟩)] w (SP B bp T s (.bool (isN T s)) w):=by
 by_cases h0:s.err=0
 ·cases ht:T[s.at_]? with
 |some t=>exact QWq h h0 ht
 |none=>
   have h1:=List.getElem?_eq_none_iff.1 ht;exact Qto h h0 (by have:=h.le;omega)
 ·exact Qso h h0
end R
end
section
open Go.RowKit
variable [Base]
theorem QZr {w:World}{g:Nat}{x:Str}(h:w.heap[g]? = some (.cells #[sv x] 9 (0,0))):Qea w (.slice (some ⟨g,0,none⟩) 1 1) [x]:=
 Qg.of_owns (Qgl h (Nat.le_refl g))
end
section
open Go.RowKit
variable [Base]
theorem Qfd (s:PS){e:Int}(he:e≠0):(s.fail e).err≠0:=by
 unfold PS.fail
 split
 ·exact he
 ·assumption
def QSb {X:Type}(bg:PS→Bool)(st:PS→X×PS):Nat→List X→PS→List X×PS
|0,acc,s=>(acc,if bg s then s.fail 7 else s)
|m+1,acc,s=>if bg s then QSb bg st m (acc++[(st s).1]) (st s).2 else (acc,s)
theorem Qpe {X:Type}{bg:PS→Bool}{st:PS→X×PS}{m:Nat}{acc:List X}{s:PS}(h:bg s=false):QSb bg st m acc s=(acc,s):=by
 cases m <;> unfold QSb <;> rw[h] <;> rfl
theorem QRf {X:Type}{bg:PS→Bool}{st:PS→X×PS}{m:Nat}{acc:List X}{s:PS}(h:bg s=true):QSb bg st (m+1) acc s=QSb bg st m (acc++[(st s).1]) (st s).2:=by
 conv=>lhs;unfold QSb
 rw[if_pos h]
theorem Qxj {X:Type}{bg:PS→Bool}{st:PS→X×PS}{acc:List X}{s:PS}(h:bg s=true):QSb bg st 0 acc s=(acc,s.fail 7):=by
 unfold QSb;rw[if_pos h]
def Md {X:Type}(bg:PS→Bool)(st:PS→X×PS)(R:List X×PS)(mx n:Nat)(s:PS)(OK:List X→Prop):Prop:=
 (∃m acc,QSb bg st m acc s=R∧n=acc.length∧n+m=mx∧OK acc)∨(s.err≠0∧R.2=s)
def Hd {X:Type}(bg:PS→Bool)(st:PS→X×PS)(R:List X×PS)(mx n:Nat)(s:PS)(OK:List X→Prop)(b:Bool):Prop:=
 (b=bg s∧Md bg st R mx n s OK)∨(b=true∧bg s=false∧n=0∧R.2=s.fail 4)
def Qsd (mx n:Nat)(s:PS):PS:=if (n:Int)=(mx:Int) then s.fail 7 else s
section
variable {X:Type} {bg:PS→Bool} {st:PS→X×PS} {R:List X×PS} {mx n:Nat} {s:PS} {OK OK':List X→Prop}
theorem Hd.done (h:Hd bg st R mx n s OK false):R.2=s∧(s.err=0→OK R.1):=by
 rcases h with⟨hb,h⟩|⟨h,_⟩
 ·rcases h with⟨m,acc,h1,h2,h3,h4⟩|⟨h1,h2⟩
  ·rw[Qpe hb.symm] at h1;rw[←h1];exact⟨rfl,fun _=>h4⟩
  ·exact⟨h2,fun h=>absurd h h1⟩
 ·cases h
theorem Hd.step (hno:∀s,bg s=false→(st s).2=s.fail 4)(herr:∀s:PS,s.err≠0→bg s=false)(hmx:1≤mx)(h:Hd bg st R mx n s OK true)(hok:∀acc,OK acc→bg s=true→Qsd mx n s=s→(st s).2.err=0→OK' (acc++[(st s).1])):Md bg st R mx (n+1) (st (Qsd mx n s)).2 OK':=by
 rcases h with⟨hb,h⟩|⟨_,hb,h,h2⟩
 ·have hb:=hb.symm;have h0:s.err=0:=by
   rcases Int.decEq s.err 0 with h|h
   ·rw[herr s h] at hb;cases hb
   ·exact h
  rcases h with⟨m,acc,h1,h2,h3,h4⟩|⟨h1,h2⟩
  ·cases m with
  |zero=>
    have hr:Qsd mx n s=s.fail 7:=by unfold Qsd;rw[if_pos ZO]
    rw[hr];have he:=Qfd s (e:=7) ZD;rw[hno _ (herr _ he),Qdf he];rw[Qxj hb] at h1;exact .inr ⟨he,by rw[←h1]⟩
  |succ m=>
    have hr:Qsd mx n s=s:=by unfold Qsd;rw[if_neg ZO]
    have hok:=fun h5=>hok acc h4 hb hr h5
    rw[hr];rw[QRf hb] at h1;rcases Int.decEq (st s).2.err 0 with h5|h5
    ·rw[Qpe (herr _ h5)] at h1;exact .inr ⟨h5,by rw[←h1]⟩
    ·exact .inl ⟨m,acc++[(st s).1],h1,by simp;omega,by omega,hok h5⟩
  ·exact absurd h0 h1
 ·have hr:Qsd mx n s=s:=by unfold Qsd;rw[if_neg ZO]
  rw[hr,hno s hb];exact .inr ⟨Qfd s ZD,h2⟩
end
def QBe (ts:List TypeId)(w w':World):Prop:=∀t∈ts,Qf t w w'
theorem QBe.trans {ts:List TypeId}{a b c:World}(h:QBe ts a b)(k:QBe ts b c):QBe ts a c:=fun t ht=>(h t ht).trans (k t ht)
def Qhf {X:Type}(Cells:World→List Value→X→Prop)(w:World)(xs:List Value)(acc:List X):Prop:=∃xss:List (List Value),xs=xss.flatten∧All2 (Cells w) xss acc
theorem Qhf.mono {X:Type}{Cells:World→List Value→X→Prop}{w w':World}{xs:List Value}{acc:List X}(hk:∀cs x,Cells w cs x→Cells w' cs x)(h:Qhf Cells w xs acc):Qhf Cells w' xs acc:=by
 obtain⟨xss,e,h⟩:=h;exact⟨xss,e,h.mono hk⟩
theorem Qhf.snoc {X:Type}{Cells:World→List Value→X→Prop}{w:World}{xs cs:List Value}{acc:List X}{x:X}(h:Qhf Cells w xs acc)(hc:Cells w cs x):Qhf Cells w (xs++cs) (acc++[x]):=by
 obtain⟨xss,e,h⟩:=h;exact⟨xss++[cs],by rw[e];simp,h.append ⟨hc,trivial⟩⟩
section
variable {U E:TypeId} {esz B bp R bb:Nat} {zR:Obj} {pre:List Value} {T:List Tok} {w0 w w':World} {s s':PS} {v:Value} {n:Nat} {xs:List Value}
end
theorem QYc {w w':World}(h:QBe [9] w w')(cs:List Value)(x:QD):QZa w cs x→QZa w' cs x:=QZa.keep (h _ ZS)
theorem QDc {w w':World}(h:QBe [9,94] w w')(cs:List Value)(x:QI):QKa w cs x→QKa w' cs x:=QKa.keep (h _ ZS) (h _ ZS)
theorem QEe {w w':World}(h:QBe [9,94,92] w w')(cs:List Value)(x:Qo):Qab w cs x→Qab w' cs x:=Qab.keep (h _ ZS) (h _ ZS) (h _ ZS)
def stS (T:List Tok)(s:PS):QD×PS:=((QTa T s).1,QQb T s)
theorem QWc (T:List Tok):∀(m:Nat) (acc:List QD) (s:PS),QWi T m acc s=QSb (QY T) (stS T) m acc s
|0,_,_=>rfl
|m+1,acc,s=>by
  cases hb:QY T s
  ·rw[Qpe hb];unfold QWi;rw[hb];rfl
  ·rw[QRf hb]
   have:(stS T s).2=(QTa T s).2:=by unfold stS QQb;rw[hb];rfl
   rw[this,←QWc T m]
   conv=>lhs;unfold QWi
   rw[hb]
   rfl
theorem QGc (T:List Tok):∀(m:Nat) (acc:List QI) (s:PS),Qxh T m acc s=QSb (isW T Qua) (Qmb T) m acc s
|0,_,_=>rfl
|m+1,acc,s=>by
  cases hb:isW T Qua s
  ·rw[Qpe hb];unfold Qxh;rw[hb];rfl
  ·rw[QRf hb,←QGc T m]
   conv=>lhs;unfold Qxh
   rw[hb]
   rfl
theorem Qxi (T:List Tok):∀(m:Nat) (acc:List Qo) (s:PS),QEj T m acc s=QSb (isW T Qrb) (QHc T) m acc s
|0,_,_=>rfl
|m+1,acc,s=>by
  cases hb:isW T Qrb s
  ·rw[Qpe hb];unfold QEj;rw[hb];rfl
  ·rw[QRf hb,←Qxi T m]
   conv=>lhs;unfold QEj
   rw[hb]
   rfl
theorem QVt (T:List Tok)(s:PS)(h:QY T s=false):(stS T s).2=s.fail 4:=by unfold stS QQb;rw[h];rfl
theorem QKm {T:List Tok}{w:Str}{s:PS}(h:isW T w s=false):Qfg T w s=s.fail 4:=by
 have he:=Qfd s (e:=4) ZD;have e1:QBb (isW T w s) s=s.fail 4:=by rw[h];rfl
 unfold Qfg Qhb endM;rw[e1,Qoh he,QEd he,QUf he ZD,QEd he]
theorem Qnn (T:List Tok)(s:PS)(h:isW T Qua s=false):(Qmb T s).2=s.fail 4:=by
 have he:=Qfd s (e:=4) ZD;unfold Qmb;dsimp only;rw[QKm h,Qsc he,if_neg ZD,Qdf he,QWc,Qpe (Qsc he)]
theorem QIt (T:List Tok)(s:PS)(h:isW T Qrb s=false):(QHc T s).2=s.fail 4:=by
 have he:=Qfd s (e:=4) ZD;unfold QHc;dsimp only;rw[QKm h,Qpc he,if_neg ZD,Qdf he,QGc,Qpe (Qpc he _)];unfold endM;rw[Qpc he,QEd he,QUf he ZD,QEd he]
theorem Qos {T:List Tok}{w:Str}{s:PS}(h:isW T w s=true):(s.next T).kind≠0:=by
 unfold isW at h;simp only[Bool.and_eq_true,beq_iff_eq] at h;omega
end
section
namespace R
open Go.RowKit
variable [Base]
theorem QKp {T:List Tok}{s:PS}(h:(s.next T).kind≠0):s.at_+1≤T.length:=by
 obtain⟨_,t,ht,_⟩:=Qld h;exact(List.getElem?_eq_some_iff.1 ht).1
theorem QDm {T:List Tok}{k:Int}{s:PS}(hk:k≠0)(h:isK T k s=true):(s.next T).kind≠0:=by
 unfold isK at h;rw[beq_iff_eq] at h;rw[h];exact hk
theorem QCm {T:List Tok}{s:PS}(h:isN T s=true):(s.next T).kind≠0:=by
 unfold isN at h;simp only[Bool.and_eq_true,beq_iff_eq] at h;omega
theorem QOg {B bp:Nat}{T:List Tok}{s:PS}{w:World}(h:PSt B bp T s w)(hT:T.length≤1000000)(x:Str):
  Calls Tryz.prog 220 #[.pointer (some ⟨bp,0,none⟩),sv x] w (SP B bp T (QBb (isW T x s) s) (.tuple #[]) w):=by
 have H:=Zh h
 cases hb:isW T x s
 ·have HB:=Zh hb;have e1:QBb false s=s.fail 4:=rfl;rw[e1];clear h hb e1;go_enter Tryz.func220,Tryz.ntmps220;go_wp2_with fail;refine(QDf H.o x).mono ?_;rintro e w1 ⟨rfl,h1,b1⟩;rw[HB.o];have H1:=Zh h1;have B1:=Zh b1;clear h1 b1;go_wp2_with fail;refine(Qtb H1.o 4 ZD).mono ?_;rintro e w2 ⟨rfl,h2,b2⟩;have H2:=Zh h2;have B2:=Zh (B1.o.trans b2);clear h2 b2;go_wp2;go_end0;exact⟨rfl,H2.o,B2.o⟩
 ·have HB:=Zh hb;have hle:=Zh (QKp (Qos hb));have e1:QBb true s=⟨s.at_+1,s.err⟩:=rfl;rw[e1];have hat:=h.le;clear h hb e1;go_enter Tryz.func220,Tryz.ntmps220;go_wp2_with fail;refine(QDf H.o x).mono ?_;rintro e w1 ⟨rfl,h1,b1⟩;rw[HB.o];have hlt:=h1.lt;have H1:=Zh h1;have B1:=Zh b1;obtain⟨a,c,hb,hTk⟩:=h1.blk;have c1:=(Qd hb).1 1;have f1:=(Qd hb).2 1;simp only[List.getElem?_toArray,List.getElem?_cons_succ,List.getElem?_cons_zero] at c1;clear h1 b1 hb hTk;go_wp2;have H3:=Zh (H1.o.setAt (s.at_+1) hle.o);have B3:=Zh (B1.o.setCell ⟨bp,1,none⟩ (.inl rfl) (.int .i64 ((s.at_+1:Nat):Int)));go_end0;exact⟨rfl,H3.o,B3.o⟩
theorem QFc {B bp:Nat}{T:List Tok}{s:PS}{w:World}(h:PSt B bp T s w)(hT:T.length≤1000000) :
  Calls Tryz.prog 222 #[.pointer (some ⟨bp,0,none⟩)] w (SP B bp T (endM T s) (.tuple #[]) w):=by
 have H:=Zh h;unfold endM
 cases hb:isK T 3 s
 ·have HB:=Zh hb;have e1:QBb false s=s.fail 4:=rfl;rw[e1];clear h hb e1;go_enter Tryz.func222,Tryz.ntmps222;go_wp2_with fail;refine(Qyg H.o 3 ZD).mono ?_;rintro e w1 ⟨rfl,h1,b1⟩;rw[HB.o];have H1:=Zh h1;have B1:=Zh b1;clear h1 b1;go_wp2_with fail;refine(Qtb H1.o 4 ZD).mono ?_;rintro e w2 ⟨rfl,h2,b2⟩;have H2:=Zh h2;have B2:=Zh (B1.o.trans b2);clear h2 b2;go_wp2;go_end0;exact⟨rfl,H2.o,B2.o⟩
 ·have HB:=Zh hb;have hle:=Zh (QKp (QDm ZD hb));have e1:QBb true s=⟨s.at_+1,s.err⟩:=rfl;rw[e1];have hat:=h.le;clear h hb e1;go_enter Tryz.func222,Tryz.ntmps222;go_wp2_with fail;refine(Qyg H.o 3 ZD).mono ?_;rintro e w1 ⟨rfl,h1,b1⟩;rw[HB.o];have hlt:=h1.lt;have H1:=Zh h1;have B1:=Zh b1;obtain⟨a,c,hb,hTk⟩:=h1.blk;have c1:=(Qd hb).1 1;have f1:=(Qd hb).2 1;simp only[List.getElem?_toArray,List.getElem?_cons_succ,List.getElem?_cons_zero] at c1;clear h1 b1 hb hTk;go_wp2;have H3:=Zh (H1.o.setAt (s.at_+1) hle.o);have B3:=Zh (B1.o.setCell ⟨bp,1,none⟩ (.inl rfl) (.int .i64 ((s.at_+1:Nat):Int)));go_end0;exact⟨rfl,H3.o,B3.o⟩
theorem name_any {B bp:Nat}{T:List Tok}{s:PS}{w:World}(h:PSt B bp T s w)(hT:T.length≤1000000):
  Calls Tryz.prog 221 #[.pointer (some ⟨bp,0,none⟩)] w (SP B bp T (Qhb T s) (sv (Qib T s)) w):=by
 have H:=Zh h;unfold Qhb Qib
 cases hb:isN T s
 ·have HB:=Zh hb;have e1:QBb false s=s.fail 4:=rfl;have e2:Qmp T false s=[]:=rfl;rw[e1,e2];clear h hb e1 e2;go_enter Tryz.func221,Tryz.ntmps221;go_wp2_with fail;refine(QCa H.o).mono ?_;rintro e w1 ⟨rfl,h1,b1⟩;rw[HB.o];have H1:=Zh h1;have B1:=Zh b1;clear h1 b1;go_wp2_with fail;refine(Qtb H1.o 4 ZD).mono ?_;rintro e w2 ⟨rfl,h2,b2⟩;have H2:=Zh h2;have B2:=Zh (B1.o.trans b2);clear h2 b2;go_wp2;go_ret;exact⟨rfl,H2.o,B2.o⟩
 ·have HB:=Zh hb;have hle:=Zh (QKp (QCm hb));obtain⟨_,t,ht,en⟩:=Qld (QCm hb);have e1:QBb true s=⟨s.at_+1,s.err⟩:=rfl;have e2:Qmp T true s=(s.next T).text:=rfl;rw[e1,e2,en];have hat:=h.le;have HTT:=Zh ht;clear h hb e1 e2 en ht;go_enter Tryz.func221,Tryz.ntmps221;go_wp2_with fail;refine(QCa H.o).mono ?_;rintro e w1 ⟨rfl,h1,b1⟩;rw[HB.o];have hlt:=h1.lt;have H1:=Zh h1;have B1:=Zh b1;obtain⟨a,c,hb,hTk⟩:=h1.blk;have c1:=(Qd hb).1 1;have f1:=(Qd hb).2 1;simp only[List.getElem?_toArray,List.getElem?_cons_succ,List.getElem?_cons_zero] at c1;obtain⟨a',c',e1,hml,_,_,hcell⟩:=QFb.form hTk;injection e1 with e1 e2 e3
  subst e1 e3;obtain⟨tb,off,rfl,htb,hty,h4⟩:=hcell s.at_ t HTT.o;obtain⟨k,y,l,cc⟩:=t;have hneb:tb≠bp:=by intro e;rw[e] at hty;exact absurd (hty _ (Qv hb (by have:=h1.kw.bs;have:=h1.ge;omega))) ZD
  have t1:w1.cell? ⟨tb,off+s.at_*4+1,none⟩=some (sv y):=h4 1 ZO;have c0:=(Qd hb).1 0;simp only[List.getElem?_toArray,List.getElem?_cons_succ,List.getElem?_cons_zero] at c0;have hin:=hle.o;have hwr:IntKind.i64.wrap ((s.at_:Int)+1-1)=(s.at_:Int):=by rw[IntKind.wrap_i64];omega
  obtain⟨n,hn⟩:=Ze T.length;rw[hn] at c0 hin hml;have hin2:(s.at_:Int)<(n:Int):=by omega
  have hb1:(bp==tb)=false:=by rw[beq_eq_false_iff_ne];exact Ne.symm hneb
  clear h1 b1 hb hTk hcell h4 hn e2 hty;have hneb2:¬bp=tb:=fun e=>hneb e.symm
  go_wp2;have H3:=Zh (H1.o.setAt (s.at_+1) hle.o);have B3:=Zh (B1.o.setCell ⟨bp,1,none⟩ (.inl rfl) (.int .i64 ((s.at_+1:Nat):Int)));go_quiet (fail);go_wp2;go_ret;exact⟨rfl,H3.o.drewN _,B3.o.drewN _⟩
end R
end
section
namespace R
open Go.RowKit
variable [Base]
theorem PSt.grown {B bp:Nat}{T:List Tok}{s:PS}{w w':World}(h:PSt B bp T s w){v:Value}{base n sz:Nat}{U:TypeId}{xs:List Value}(hg:w.grownBy w' v.ownBlock)(ho:w.ownsRow base U sz v n xs)(hne:232≠U)(hb:bp<base)(hs:base≤w.heap.size):PSt B bp T s w':=by
 have hbel:=Below.of_grown hg ho hs;exact h.keep (hbel.block bp hb) (fun k hk=>hbel.block k (by have:=h.ge;omega)) (Qf.grown hg ho hne (by have:=h.kw.bs;have:=h.ge;omega))
def QVk (B bp:Nat)(T:List Tok)(r:List Str×PS)(w:World)(e:Ending)(w':World):Prop:=
 ∃a n c,e=.returned (.slice a n c)∧PSt B bp T r.2 w'∧But bp w w'∧∃l,l.length=n∧n≤4∧Qea w' (.slice a n c) l∧(r.2.err=0→l=r.1)
def NmIn (mx B bp:Nat)(T:List Tok)(R:List Str×PS)(w0:World)(g:Nat)(w:World)(v:Value):Prop:=
 ∃(s:PS) (n:Nat) (cs:List Value),PSt B bp T s w∧But bp w0 w∧w.ownsRow w0.heap.size 9 1 v n cs∧g+n=6 ∧
  ∃m acc,QNa T m acc s=R∧n=acc.length∧n+m=mx∧cs=acc.map sv
theorem QNq {B bp:Nat}{T:List Tok}{s:PS}{w:World}(h:PSt B bp T s w)(hT:T.length≤1000000):
  Calls Tryz.prog 255 #[.pointer (some ⟨bp,0,none⟩)] w (QVk B bp T (QNa T 4 [] s) w):=by
 obtain⟨R,hR⟩:=Ze (QNa T 4 [] s);rw[hR];have hlt:=h.lt;have I:Hid (NmIn 4 B bp T R w 6 w (.slice none 0 0)):=⟨s,0,[],h,But.refl _ _,World.ownsRow_nil _ _ _ _,rfl,4,[],hR,rfl,rfl,rfl⟩;clear h hR;go_enter Tryz.func255,Tryz.ntmps255;go_wp2;go_loopg [3] 6 (fun g v wr=>Hid (NmIn 4 B bp T R w g wr v))
 case atStart=>exact I
 case round=>
  obtain⟨s1,n,cs,h1,b1,hown,hgn,m,acc,hm,hn,hnm,hcs⟩:=hrel.o;have H1:=Zh h1;have B1:=Zh b1;have HO:=Zh hown;have HRm:=Zh hm;have HCs:=Zh hcs;have HNn:=Zh hn;have hwz:=b1.size;obtain⟨va,vc,rfl⟩:=Qkd hown;clear h1 b1 hown hm hcs hn hrel I
  cases hN:isN T s1
  ·have HN:=Zh hN;clear hN;go_wp2_with fail;refine(QCa H1.o).mono ?_;rintro e w2 ⟨rfl,h2,b2⟩;have H2:=Zh h2;have B2:=Zh (B1.o.trans b2);have HO2:=Zh (Qvc HO.o b2 hlt);clear h2 b2;rw[HN.o];go_wp2;go_ret;have hm:=HRm.o;rw[Qae HN.o] at hm;have h3:=Qg.of_owns HO2.o;rw[HCs.o] at h3;refine⟨_,_,_,rfl,by rw[←hm];exact H2.o,B2.o,acc,HNn.o.symm,by omega,h3,fun _=>by rw[←hm]⟩
  ·have HN:=Zh hN;obtain⟨herr,tk,htk,_,_,hnv⟩:=Qps hN;have HErr:=Zh herr;clear herr htk hnv hN;go_wp2_with fail;refine(QCa H1.o).mono ?_;rintro e w2 ⟨rfl,h2,b2⟩;have H2:=Zh h2;have B2:=Zh (B1.o.trans b2);have HO2:=Zh (Qvc HO.o b2 hlt);have hwz2:=b2.size;clear h2 b2 HO H1 B1;rw[HN.o]
   cases hfull:((n:Int)==4)
   ·have h5:¬((n:Int)=4):=by simpa using hfull
    have hlt4:n<4:=by omega
    clear h5;go_wp2_with fail;refine(name_any H2.o hT).mono ?_;rintro e w4 ⟨rfl,h4,b4⟩;have e1:Qhb T s1=s1.step:=by unfold Qhb;rw[HN.o];rfl
    rw[e1] at h4;have H4:=Zh h4;have B4:=Zh (B2.o.trans b4);have HO4:=Zh (Qvc HO2.o b4 hlt);have hwz4:=b4.size;obtain⟨nv,hnv⟩:=Ze (Qib T s1);rw[hnv];have HNV:=Zh hnv;clear h4 b4 HO2 H2 B2 e1 hnv;go_wp2_with (at_builtin;refine Qcb [sv nv] rfl _ _ 86 rfl w.heap.size 9 _ 1 16 Tryz.underlying86 QGi rfl ZO _ _ _ HO4.o rfl _ rfl ZS rfl rfl (by unfold maxLen;omega) ZO ZO ?_;intro g cap w6 hown1 hg1 hg2 hg3;have H6:=Zh (PSt.grown H4.o hg1 HO4.o ZD hlt ZO);have B6:=Zh (B4.o.belowB (Below.of_grown hg1 HO4.o ZO) (Nat.le_refl _));have HO6:=Zh hown1;clear hown1 hg1 hg2 hg3);obtain⟨m',rfl⟩:∃m',m=m' + 1:=⟨m-1,by omega⟩;have hr2:QNa T m' (acc++[nv]) s1.step=R:=by
     have h5:=HRm.o;rw[Qsf HN.o,HNV.o] at h5;exact h5
    go_roundg (gk-1)
    case measure=>omega
    case rel=>exact⟨_,n+1,_,H6.o,B6.o,HO6.o,by omega,m',acc++[nv],hr2,by have:=HNn.o;simp;omega,by omega,by rw[HCs.o];simp⟩
   ·have h5:(n:Int)=4:=by simpa using hfull
    have hm0:m=0:=by omega
    clear h5;subst hm0;have hE:=Zh (QQp HErr.o (e:=7) ZD);go_wp2_with fail;refine(Qtb H2.o 7 ZD).mono ?_;rintro e w3 ⟨rfl,h3,b3⟩;have H3:=Zh h3;have B3:=Zh (B2.o.trans b3);clear h3 b3;go_wp2;go_ret;have hm:=HRm.o;rw[Qui HN.o] at hm;refine⟨_,_,_,rfl,by rw[←hm];exact H3.o,B3.o,[],rfl,by omega,Qg.nil,fun h0=>absurd (by rw[←hm] at h0;exact h0) hE.o⟩
theorem Qks {B bp:Nat}{T:List Tok}{s:PS}{w:World}(h:PSt B bp T s w)(hT:T.length≤1000000):
  Calls Tryz.prog 254 #[.pointer (some ⟨bp,0,none⟩),.int .i64 1] w (QVk B bp T (QNa T 3 [] s) w):=by
 obtain⟨R,hR⟩:=Ze (QNa T 3 [] s);rw[hR];have hlt:=h.lt;have I:Hid (NmIn 3 B bp T R w 6 w (.slice none 0 0)):=⟨s,0,[],h,But.refl _ _,World.ownsRow_nil _ _ _ _,rfl,3,[],hR,rfl,rfl,rfl⟩;clear h hR;go_enter Tryz.func254,Tryz.ntmps254;go_wp2;go_loopg [5] 6 (fun g v wr=>Hid (NmIn 3 B bp T R w g wr v))
 case atStart=>exact I
 case round=>
  obtain⟨s1,n,cs,h1,b1,hown,hgn,m,acc,hm,hn,hnm,hcs⟩:=hrel.o;have H1:=Zh h1;have B1:=Zh b1;have HO:=Zh hown;have HRm:=Zh hm;have HCs:=Zh hcs;have HNn:=Zh hn;have hwz:=b1.size;obtain⟨va,vc,rfl⟩:=Qkd hown;clear h1 b1 hown hm hcs hn hrel I
  cases hN:isN T s1
  ·have HN:=Zh hN;clear hN;go_wp2_with fail;refine(QCa H1.o).mono ?_;rintro e w2 ⟨rfl,h2,b2⟩;have H2:=Zh h2;have B2:=Zh (B1.o.trans b2);have HO2:=Zh (Qvc HO.o b2 hlt);clear h2 b2;rw[HN.o];go_wp2;go_ret;have hm:=HRm.o;rw[Qae HN.o] at hm;have h3:=Qg.of_owns HO2.o;rw[HCs.o] at h3;refine⟨_,_,_,rfl,by rw[←hm];exact H2.o,B2.o,acc,HNn.o.symm,by omega,h3,fun _=>by rw[←hm]⟩
  ·have HN:=Zh hN;obtain⟨herr,tk,htk,_,_,hnv⟩:=Qps hN;have HErr:=Zh herr;clear herr htk hnv hN;go_wp2_with fail;refine(QCa H1.o).mono ?_;rintro e w2 ⟨rfl,h2,b2⟩;have H2:=Zh h2;have B2:=Zh (B1.o.trans b2);have HO2:=Zh (Qvc HO.o b2 hlt);have hwz2:=b2.size;clear h2 b2 HO H1 B1;rw[HN.o]
   cases hfull:(1+(n:Int)==4)
   ·have h5:¬(1+(n:Int)=4):=by simpa using hfull
    have hlt4:n<3:=by omega
    clear h5;go_wp2_with fail;refine(name_any H2.o hT).mono ?_;rintro e w4 ⟨rfl,h4,b4⟩;have e1:Qhb T s1=s1.step:=by unfold Qhb;rw[HN.o];rfl
    rw[e1] at h4;have H4:=Zh h4;have B4:=Zh (B2.o.trans b4);have HO4:=Zh (Qvc HO2.o b4 hlt);have hwz4:=b4.size;obtain⟨nv,hnv⟩:=Ze (Qib T s1);rw[hnv];have HNV:=Zh hnv;clear h4 b4 HO2 H2 B2 e1 hnv;go_wp2_with (at_builtin;refine Qcb [sv nv] rfl _ _ 86 rfl w.heap.size 9 _ 1 16 Tryz.underlying86 QGi rfl ZO _ _ _ HO4.o rfl _ rfl ZS rfl rfl (by unfold maxLen;omega) ZO ZO ?_;intro g cap w6 hown1 hg1 hg2 hg3;have H6:=Zh (PSt.grown H4.o hg1 HO4.o ZD hlt ZO);have B6:=Zh (B4.o.belowB (Below.of_grown hg1 HO4.o ZO) (Nat.le_refl _));have HO6:=Zh hown1;clear hown1 hg1 hg2 hg3);obtain⟨m',rfl⟩:∃m',m=m' + 1:=⟨m-1,by omega⟩;have hr2:QNa T m' (acc++[nv]) s1.step=R:=by
     have h5:=HRm.o;rw[Qsf HN.o,HNV.o] at h5;exact h5
    go_roundg (gk-1)
    case measure=>omega
    case rel=>exact⟨_,n+1,_,H6.o,B6.o,HO6.o,by omega,m',acc++[nv],hr2,by have:=HNn.o;simp;omega,by omega,by rw[HCs.o];simp⟩
   ·have h5:1+(n:Int)=4:=by simpa using hfull
    have hm0:m=0:=by omega
    clear h5;subst hm0;have hE:=Zh (QQp HErr.o (e:=7) ZD);go_wp2_with fail;refine(Qtb H2.o 7 ZD).mono ?_;rintro e w3 ⟨rfl,h3,b3⟩;have H3:=Zh h3;have B3:=Zh (B2.o.trans b3);clear h3 b3;go_wp2;go_ret;have hm:=HRm.o;rw[Qui HN.o] at hm;refine⟨_,_,_,rfl,by rw[←hm];exact H3.o,B3.o,[],rfl,by omega,Qg.nil,fun h0=>absurd (by rw[←hm] at h0;exact h0) hE.o⟩
end R
end
section
namespace R
open Go.RowKit
variable [Base]
def QXd:List Str:=[[117,115,101],[99,97,108,108],[115,111,117,114,99,101],[115,105,110,107],[115,97,110,105,116,105,122,101],[103,111,116,111],[98,114,97,110,99,104],[114,101,116,117,114,110]]
theorem QXr (x:Str):(opOf x != 0)=QXd.any (fun y=>x==y):=by
 unfold opOf QXd;simp only[List.any_cons,List.any_nil,Bool.or_false]
 repeat' split
 all_goals simp_all
theorem QIh (T:List Tok)(s:PS):QY T s=(isN T s||QXd.any (fun y=>isW T y s)):=by
 unfold QY isW;rw[QXr]
 congr 1
 cases (s.next T).kind==1
 ·rw[Bool.false_and]
  symm
  rw[List.any_eq_false];simp
 ·simp only[Bool.true_and]
def Qek:Obj:=.cells #[sv [117,115,101],sv [99,97,108,108],sv [115,111,117,114,99,101],sv [115,105,110,107],sv [115,97,110,105,116,105,122,101],sv [103,111,116,111],sv [98,114,97,110,99,104],sv [114,101,116,117,114,110]] 9 (0,0)
theorem Qeq {w:World}{b i:Nat}(h:w.heap[b]? = some Qek){x:Str}(hx:QXd[i]? = some x):w.cell? ⟨b,i,none⟩=some (sv x):=by
 rw[(Qd h).1 i];have:i<8:=(List.getElem?_eq_some_iff.1 hx).1;have h8:i=0∨i=1∨i=2∨i=3∨i=4∨i=5∨i=6∨i=7:=by omega
 rcases h8 with rfl|rfl|rfl|rfl|rfl|rfl|rfl|rfl <;>(injection hx with hx;rw[←hx];rfl)
def BgIn (B bp b:Nat)(T:List Tok)(s:PS)(w0:World)(g:Nat)(w:World)(v:Value):Prop:=
 ∃i:Nat,v=.int .i64 i∧g+i=9∧i≤8∧PSt B bp T s w∧But bp w0 w∧w.heap[b]? = some Qek∧∀j x,j<i→QXd[j]? = some x→isW T x s=false
theorem QLg {B bp:Nat}{T:List Tok}{s:PS}{w:World}(h:PSt B bp T s w):
  Calls Tryz.prog 247 #[.pointer (some ⟨bp,0,none⟩)] w (SP B bp T s (.bool (QY T s)) w):=by
 have hlt:=h.lt;rw[QIh];have I:Hid (BgIn B bp w.heap.size T s w 9 (w.alloc (.cells #[sv [117,115,101],sv [99,97,108,108],sv [115,111,117,114,99,101],sv [115,105,110,107],sv [115,97,110,105,116,105,122,101],sv [103,111,116,111],sv [98,114,97,110,99,104],sv [114,101,116,117,114,110]] 9)) (.int .i64 0)):=
  ⟨0,rfl,rfl,by omega,h.alloc _,(But.refl _ _).alloc _,heap_alloc_new _ _,fun j x hj=>absurd hj ZO⟩
 clear h;go_enter Tryz.func247,Tryz.ntmps247;go_wp2;obtain⟨b,hb⟩:=Ze w.heap.size;rw[hb] at I ⊢;have hbp:bp<b:=by omega
 clear hb;go_loopg [4] 9 (fun g v wr=>Hid (BgIn B bp b T s w g wr v))
 case atStart=>exact I
 case round=>
  obtain⟨i,rfl,hgi,hi8,h1,b1,hblk,hall⟩:=hrel.o;have H1:=Zh h1;have B1:=Zh b1;have HK:=Zh hblk;have HA:=Zh hall;have hbz:=Qb hblk;clear h1 b1 hblk hall hrel I;rcases Nat.lt_or_ge i 8 with hi|hi
  ·obtain⟨x,hx⟩:∃x,QXd[i]? = some x:=⟨_,List.getElem?_eq_getElem (show i<QXd.length from hi)⟩;have HX:=Zh hx;have c1:=Qeq HK.o hx;have hi':(i:Int)<8:=by omega
   clear hx;go_wp2_with fail;refine(QDf H1.o x).mono ?_;rintro e w2 ⟨rfl,h2,b2⟩;have H2:=Zh h2;have B2:=Zh (B1.o.trans b2);have HK2:=Zh (b2.blk HK.o ZO);clear h2 b2
   cases hw:isW T x s
   ·have HW:=Zh hw;clear hw;go_wp2;go_roundg (gk-1)
    case measure=>omega
    case rel=>
     refine⟨i+1,rfl,by omega,by omega,H2.o,B2.o,HK2.o,fun j y hj hy=>?_⟩;rcases Nat.lt_or_ge j i with hji|hji
     ·exact HA.o j y hji hy
     ·obtain rfl:j=i:=by omega
      rw[HX.o] at hy;injection hy with hy
      rw[←hy];exact HW.o
   ·have HW:=Zh hw;clear hw;go_wp2;go_ret;refine⟨Qgb ?_,H2.o,B2.o⟩;have:QXd.any (fun y=>isW T y s)=true:=List.any_eq_true.2 ⟨x,List.mem_of_getElem? HX.o,HW.o⟩;rw[this,Bool.or_true]
  ·obtain rfl:i=8:=by omega
   go_wp2_with fail;refine(QCa H1.o).mono ?_;rintro e w2 ⟨rfl,h2,b2⟩;have H2:=Zh h2;have B2:=Zh (B1.o.trans b2);clear h2 b2;go_wp2;go_ret;refine⟨Qgb ?_,H2.o,B2.o⟩;have:QXd.any (fun y=>isW T y s)=false:=by
    rw[List.any_eq_false];intro y hy;obtain⟨j,hj⟩:=List.getElem?_of_mem hy;have hj8:j<8:=(List.getElem?_eq_some_iff.1 hj).1;rw[HA.o j y hj8 hj];decide
   rw[this,Bool.or_false]
end R
end
end Go.Proofs.YtijekimobahgpaaGreatDoor
