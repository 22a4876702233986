/- A part of the proof. -/
import Derived.Test.YtijekimobahgpaaGreatDoorWb11
set_option linter.unusedVariables false
set_option linter.unusedSimpArgs false
set_option linter.unusedSectionVars false
set_option maxRecDepth 100000
set_option maxHeartbeats 16000000
namespace Go.Proofs.YtijekimobahgpaaGreatDoor
section
open Go.RowKit
variable [Base]
theorem Qkv (l:List Cp):(QHa l).length=l.length*2:=by
 unfold QHa;rw[Qed 2 _ (QJk l),List.length_map]
theorem Qnv (l:List Cp):(QHa l).all Value.oneCell'=true:=by
 rw[List.all_eq_true];intro x hx;obtain⟨cs,hcs,hxc⟩:=List.mem_flatten.1 hx;obtain⟨c,-,rfl⟩:=List.mem_map.1 hcs;simp[copV] at hxc;rcases hxc with rfl|rfl <;> rfl
theorem Qxv (w:World):(w.alloc (.cells #[] CT)).ownsRow w.heap.size CT 2 (.slice (some ⟨w.heap.size,0,none⟩) 0 0) 0 []:=
 ⟨by simp,.inr ⟨w.heap.size,0,#[],rfl,Nat.le_refl _,heap_alloc_new _ _,Nat.le_refl _,Nat.zero_le _,by simp,by simp⟩⟩
theorem QWv {w:World}{k:Nat}(hk:k≤w.heap.size)(a b:Int):(w.alloc (.cells #[iv a,iv b] CT)).ownsRow k CT 2 (.slice (some ⟨w.heap.size,0,none⟩) 1 1) 1 (copV (a,b)):=
 ⟨by simp[copV],.inr ⟨w.heap.size,1,#[iv a,iv b],rfl,hk,heap_alloc_new _ _,Nat.le_refl _,by decide,by simp,by simp[copV]⟩⟩
structure SpT (B bt z q m:Nat)(w wr:World)(f t:Qw)(fu fk fc gu ku cu:Value):Prop where
 tape:QZ B wr bt
 but:But bt w wr
 src:wr.heap[z]? = some (.cells #[iv m,fu,iv m,fk,fc] FNA (0,0))
 res:wr.heap[z+1]? = some (.cells #[iv 0,.slice none 0 0,iv 0,.slice none 0 0,.slice none 0 0] FNA (0,0))
 cur:wr.heap[q]? = some (.cells #[iv t.gen.width,gu,iv t.kill.width,ku,cu] FNA (0,0))
 fgw:Qi wr fu f.gen.words
 fkw:Qi wr fk f.kill.words
 gw:Qi wr gu t.gen.words
 kw:Qi wr ku t.kill.words
 cops:Qya (q+1) wr cu t.cops
 old:w.heap.size≤z∧z+1<q∧bt<w.heap.size
section
variable {B bt z q m:Nat} {w wr w2:World} {f t:Qw} {fu fk fc gu ku cu:Value}
theorem SpT.qs (h:SpT B bt z q m w wr f t fu fk fc gu ku cu):q+1≤wr.heap.size:=Qb h.cur
theorem SpT.bs (h:SpT B bt z q m w wr f t fu fk fc gu ku cu):Base.b≤z:=by have:=h.tape.bs;have:=h.old;omega
theorem SpT.next (h:SpT B bt z q m w wr f t fu fk fc gu ku cu)(ht:QZ B w2 bt)(hb:But bt wr w2):SpT B bt z q m w w2 f t fu fk fc gu ku cu:=by
 obtain⟨o1,o2,o3⟩:=h.old;exact⟨ht,h.but.trans hb,(hb.block z (Qb h.src) ZO).trans h.src,(hb.block (z+1) (Qb h.res) ZO).trans h.res,(hb.block q (Qb h.cur) ZO).trans h.cur,
  h.fgw.keep (hb.sameT h.tape ZD),h.fkw.keep (hb.sameT h.tape ZD),h.gw.keep (hb.sameT h.tape ZD),h.kw.keep (hb.sameT h.tape ZD),Qzp (B:=B) h.cops hb ZO,h.old⟩
theorem SpT.two (h:SpT B bt z q m w wr f t fu fk fc gu ku cu)(a b:Nat)(x y:Value):QZ B ((wr.setCell ⟨q,a,none⟩ x).setCell ⟨q,b,none⟩ y) bt∧But bt w ((wr.setCell ⟨q,a,none⟩ x).setCell ⟨q,b,none⟩ y) ∧
  ((wr.setCell ⟨q,a,none⟩ x).setCell ⟨q,b,none⟩ y).heap[z]? = some (.cells #[iv m,fu,iv m,fk,fc] FNA (0,0))∧((wr.setCell ⟨q,a,none⟩ x).setCell ⟨q,b,none⟩ y).heap[z+1]? = some (.cells #[iv 0,.slice none 0 0,iv 0,.slice none 0 0,.slice none 0 0] FNA (0,0)) ∧
  (∀T,T≠FNA→Qf T wr ((wr.setCell ⟨q,a,none⟩ x).setCell ⟨q,b,none⟩ y))∧Qya (q+1) ((wr.setCell ⟨q,a,none⟩ x).setCell ⟨q,b,none⟩ y) cu t.cops:=by
 obtain⟨o1,o2,o3⟩:=h.old;have hbs:=h.bs;have hge:=h.tape.ge;have hT:tyAt wr q=some FNA:=Qv h.cur ZO;refine⟨(h.tape.setCell (by show q≠bt;omega) (by show B≤q;omega) _).setCell (by show q≠bt;omega) (by show B≤q;omega) _,
  (h.but.setCell ⟨q,a,none⟩ (.inr (by show w.heap.size≤q;omega)) _).setCell ⟨q,b,none⟩ (.inr (by show w.heap.size≤q;omega)) _,?_,?_,
  fun T hne=>(Qf.setCell (U:=FNA) hT hne).trans (Qf.setCell (U:=FNA) ((QS q).trans hT) hne),Qza (Qza h.cops hT (show CT≠FNA by decide)) ((QS q).trans hT) (show CT≠FNA by decide)⟩
 ·rw[Below.heap_setCell _ _ _ _ (by show z≠q;omega),Below.heap_setCell _ _ _ _ (by show z≠q;omega)];exact h.src
 ·rw[Below.heap_setCell _ _ _ _ (by show z+1≠q;omega),Below.heap_setCell _ _ _ _ (by show z+1≠q;omega)];exact h.res
theorem SpT.setG {s:QSet}{u:Value}(h:SpT B bt z q m w wr f t fu fk fc gu ku cu)(hu:Qi wr u s.words):
  SpT B bt z q m w ((wr.setCell ⟨q,0,none⟩ (iv s.width)).setCell ⟨q,1,none⟩ u) f { t with gen:=s } fu fk fc u ku cu:=by
 obtain⟨h1,h2,h3,h4,h5,h6⟩:=h.two 0 1 (iv s.width) u;have hU:=h5 139 ZD;exact⟨h1,h2,h3,h4,by simp[World.setCell,Array.getElem?_modify,h.cur],h.fgw.keep hU,h.fkw.keep hU,hu.keep hU,h.kw.keep hU,h6,h.old⟩
theorem SpT.setK {s:QSet}{u:Value}(h:SpT B bt z q m w wr f t fu fk fc gu ku cu)(hu:Qi wr u s.words):
  SpT B bt z q m w ((wr.setCell ⟨q,2,none⟩ (iv s.width)).setCell ⟨q,3,none⟩ u) f { t with kill:=s } fu fk fc gu u cu:=by
 obtain⟨h1,h2,h3,h4,h5,h6⟩:=h.two 2 3 (iv s.width) u;have hU:=h5 139 ZD;exact⟨h1,h2,h3,h4,by simp[World.setCell,Array.getElem?_modify,h.cur],h.fgw.keep hU,h.fkw.keep hU,h.gw.keep hU,hu.keep hU,h6,h.old⟩
theorem SpT.put {l:List Cp}{v:Value}(h:SpT B bt z q m w wr f t fu fk fc gu ku cu)(ho:Qya (q+1) wr v l):SpT B bt z q m w (wr.setCell ⟨q,4,none⟩ v) f { t with cops:=l } fu fk fc gu ku v:=by
 obtain⟨o1,o2,o3⟩:=h.old;have hbs:=h.bs;have hge:=h.tape.ge;have hT:tyAt wr q=some FNA:=Qv h.cur ZO;have hU:Qf 139 wr (wr.setCell ⟨q,4,none⟩ v):=Qf.setCell (U:=FNA) hT ZD;refine⟨h.tape.setCell (by show q≠bt;omega) (by show B≤q;omega) _,h.but.setCell ⟨q,4,none⟩ (.inr (by show w.heap.size≤q;omega)) _,?_,?_,by simp[World.setCell,Array.getElem?_modify,h.cur],h.fgw.keep hU,h.fkw.keep hU,h.gw.keep hU,h.kw.keep hU,Qza ho hT (show CT≠FNA by decide),h.old⟩
 ·rw[Below.heap_setCell _ _ _ _ (by show z≠q;omega)];exact h.src
 ·rw[Below.heap_setCell _ _ _ _ (by show z+1≠q;omega)];exact h.res
theorem SpT.grow {l:List Cp}{v:Value}(h:SpT B bt z q m w wr f t fu fk fc gu ku cu)(ho:Qya (q+1) w2 v l)(hg:wr.grownBy w2 cu.ownBlock):
  SpT B bt z q m w (w2.setCell ⟨q,4,none⟩ v) f { t with cops:=l } fu fk fc gu ku v∧w2.heap[q]? = some (.cells #[iv t.gen.width,gu,iv t.kill.width,ku,cu] FNA (0,0)) ∧
  w2.heap[z+1]? = some (.cells #[iv 0,.slice none 0 0,iv 0,.slice none 0 0,.slice none 0 0] FNA (0,0)):=by
 obtain⟨o1,o2,o3⟩:=h.old;have hbs:=h.bs;have hge:=h.tape.ge;have hB:Below (q+1) wr w2:=Below.of_grown hg h.cops h.qs;have hq:=(hB.block q ZO).trans h.cur;have hT:tyAt w2 q=some FNA:=Qv hq ZO;have hs1:Qf 139 wr w2:=Qf.grown hg h.cops ZD;have hU:Qf 139 wr (w2.setCell ⟨q,4,none⟩ v):=hs1.trans (Qf.setCell (U:=FNA) hT ZD);have hb2:But bt w w2:=⟨hB.os.trans h.but.os,hB.tape.trans h.but.tape,hB.output.trans h.but.output,Nat.le_trans h.but.size hB.size,fun k hk hn=>(hB.block k ZO).trans (h.but.block k hk hn)⟩;refine⟨⟨(h.tape.keep (hB.block bt ZO) (fun k hk=>hB.block k ZO) hB.size).setCell (by show q≠bt;omega) (by show B≤q;omega) _,hb2.setCell ⟨q,4,none⟩ (.inr (by show w.heap.size≤q;omega)) _,?_,?_,by simp[World.setCell,Array.getElem?_modify,hq],h.fgw.keep hU,h.fkw.keep hU,h.gw.keep hU,h.kw.keep hU,Qza ho hT (show CT≠FNA by decide),h.old⟩,hq,(hB.block (z+1) ZO).trans h.res⟩
 ·rw[Below.heap_setCell _ _ _ _ (by show z≠q;omega)];exact(hB.block z ZO).trans h.src
 ·rw[Below.heap_setCell _ _ _ _ (by show z+1≠q;omega)];exact(hB.block (z+1) ZO).trans h.res
theorem SpT.place {c:Cp}{g:Option Addr}{cap n:Nat}(h:SpT B bt z q m w wr f t fu fk fc gu ku cu)(ho:w2.ownsRow (q+1) CT 2 (.slice g (1+n) cap) (1+n) (copV c++QHa t.cops))(hg:(wr.alloc (.cells #[iv c.1,iv c.2] CT)).grownBy w2 (some wr.heap.size))(hn:t.cops.length=n):
  SpT B bt z q m w (w2.setCell ⟨q,4,none⟩ (.slice g (1+n) cap)) f { t with cops:=c::t.cops } fu fk fc gu ku (.slice g (1+n) cap)∧w2.heap[q]? = some (.cells #[iv t.gen.width,gu,iv t.kill.width,ku,cu] FNA (0,0)) ∧
  w2.heap[z+1]? = some (.cells #[iv 0,.slice none 0 0,iv 0,.slice none 0 0,.slice none 0 0] FNA (0,0))∧w2.heap[z]? = some (.cells #[iv m,fu,iv m,fk,fc] FNA (0,0)):=by
 obtain⟨o1,o2,o3⟩:=h.old;have hB:Below wr.heap.size wr w2:=((Below.refl wr.heap.size wr).alloc (Nat.le_refl _) _).trans (Below.of_grown hg (QWv (Nat.le_refl _) c.1 c.2) ZS);have hq:=(hB.block q h.qs).trans h.cur;have hr:=(hB.block (z+1) (by have:=h.qs;omega)).trans h.res;have h2:SpT B bt z q m w w2 f t fu fk fc gu ku cu:=h.next (h.tape.below hB) ((But.refl bt wr).below hB);refine⟨h2.put (l:=c::t.cops) ?_,hq,hr,(hB.block z (by have:=h.qs;omega)).trans h.src⟩;unfold Qya;rw[show QHa (c::t.cops)=copV c++QHa t.cops from rfl,List.length_cons,hn,show n+1=1+n by omega];exact ho
theorem SpT.fin (h:SpT B bt z q m w wr f t fu fk fc gu ku cu)(x0 x1 x2 x3 x4:Value):
  Qja (((((wr.setCell ⟨z+1,0,none⟩ x0).setCell ⟨z+1,1,none⟩ x1).setCell ⟨z+1,2,none⟩ x2).setCell ⟨z+1,3,none⟩ x3).setCell ⟨z+1,4,none⟩ x4) gu ku cu t ∧
  QZ B (((((wr.setCell ⟨z+1,0,none⟩ x0).setCell ⟨z+1,1,none⟩ x1).setCell ⟨z+1,2,none⟩ x2).setCell ⟨z+1,3,none⟩ x3).setCell ⟨z+1,4,none⟩ x4) bt ∧
  But bt w (((((wr.setCell ⟨z+1,0,none⟩ x0).setCell ⟨z+1,1,none⟩ x1).setCell ⟨z+1,2,none⟩ x2).setCell ⟨z+1,3,none⟩ x3).setCell ⟨z+1,4,none⟩ x4):=by
 obtain⟨o1,o2,o3⟩:=h.old;have hbs:=h.bs;have hge:=h.tape.ge;have step:∀(wx:World) (o:Nat) (x:Value),tyAt wx (z+1)=some FNA∧Qja wx gu ku cu t∧QZ B wx bt∧But bt w wx→tyAt (wx.setCell ⟨z+1,o,none⟩ x) (z+1)=some FNA∧Qja (wx.setCell ⟨z+1,o,none⟩ x) gu ku cu t∧QZ B (wx.setCell ⟨z+1,o,none⟩ x) bt∧But bt w (wx.setCell ⟨z+1,o,none⟩ x):=fun wx o x ⟨k1,k2,k3,k4⟩=>
  ⟨(QS (z+1)).trans k1,k2.keep (Qf.setCell (U:=FNA) k1 ZD) (Qf.setCell (U:=FNA) k1 ZD),k3.setCell (by show z+1≠bt;omega) (by show B≤z+1;omega) _,k4.setCell ⟨z+1,o,none⟩ (.inr (by show w.heap.size≤z+1;omega)) _⟩
 have s0:tyAt wr (z+1)=some FNA∧Qja wr gu ku cu t∧QZ B wr bt∧But bt w wr:=⟨Qv h.res ZO,⟨h.gw,h.kw,h.cops.at_⟩,h.tape,h.but⟩;exact(step _ 4 x4 (step _ 3 x3 (step _ 2 x2 (step _ 1 x1 (step _ 0 x0 s0))))).2
end
def Qfw (B bt:Nat)(w:World)(e:Ending)(w':World):Prop:=∃t gu ku cu,e=.returned (trV t gu ku cu)∧Qja w' gu ku cu t∧QZ B w' bt∧But bt w w'
end
section
open Go.RowKit
variable [Base]
theorem SpT.start {B bt z q m:Nat}{w wr w2:World}{f:Qw}{fu fk fc u v:Value}(hf:OkT m f)(ht:QZ B wr bt)(hb:But bt w wr)(hs:wr.heap[z]? = some (.cells #[iv m,fu,iv m,fk,fc] FNA (0,0)))(hr:wr.heap[z+1]? = some (.cells #[iv 0,.slice none 0 0,iv 0,.slice none 0 0,.slice none 0 0] FNA (0,0)))(hq:wr.heap[q]? = some (.cells #[iv m,fu,iv m,fk,u] FNA (0,0)))(hg:Qi wr fu f.gen.words)(hk:Qi wr fk f.kill.words)(hB:Below wr.heap.size wr w2)(hsz:q+1≤wr.heap.size)(ho:Qya (q+1) w2 v f.cops)(old:w.heap.size≤z∧z+1<q∧bt<w.heap.size):
  SpT B bt z q m w (w2.setCell ⟨q,4,none⟩ v) f f fu fk fc fu fk v:=by
 obtain⟨o1,o2,o3⟩:=old;have hbs:=ht.bs;have hge:=ht.ge;have hq2:=(hB.block q ZO).trans hq;have hT:tyAt w2 q=some FNA:=Qv hq2 ZO;have hU:Qf 139 w2 (w2.setCell ⟨q,4,none⟩ v):=Qf.setCell (U:=FNA) hT ZD;have hw:f.gen.width=(m:Int):=hf.gen.width;have hw2:f.kill.width=(m:Int):=hf.kill.width;refine⟨(ht.below hB).setCell (by show q≠bt;omega) (by show B≤q;omega) _,(hb.below hB).setCell ⟨q,4,none⟩ (.inr (by show w.heap.size≤q;omega)) _,?_,?_,?_,(hg.below hB).keep hU,(hk.below hB).keep hU,(hg.below hB).keep hU,(hk.below hB).keep hU,Qza ho hT (show CT≠FNA by decide),⟨o1,o2,o3⟩⟩
 ·rw[Below.heap_setCell _ _ _ _ (by show z≠q;omega)];exact(hB.block z ZO).trans hs
 ·rw[Below.heap_setCell _ _ _ _ (by show z+1≠q;omega)];exact(hB.block (z+1) ZO).trans hr
 ·rw[hw,hw2];simp[World.setCell,Array.getElem?_modify,hq2]
theorem QNv {w:World}{o1 o2 o3:Obj}:(((w.alloc o1).alloc o2).alloc o3).heap[w.heap.size]? = some o1∧(((w.alloc o1).alloc o2).alloc o3).heap[w.heap.size+1]? = some o2∧(((w.alloc o1).alloc o2).alloc o3).heap[w.heap.size+2]? = some o3:=by
 have h:=heap_alloc_new ((w.alloc o1).alloc o2) o3;rw[World.size_alloc,World.size_alloc] at h;exact⟨Qz _ (Qz _ (heap_alloc_new _ _)),Qz _ (Qda _ _),h⟩
theorem Qtv {B bt m:Nat}(f:Qw)(hf:OkT m f)(hm:m≤256)(fu fk fc:Value)(w:World)(ht:QZ B w bt)(hA:Qja w fu fk fc f):Calls Tryz.prog 26 #[.pointer (some ⟨bt,0,none⟩),trV f fu fk fc] w (Qfw B bt w):=by
 have hlt:=ht.lt;have hbs:=ht.bs;have hge:=ht.ge;have hfw:f.gen.width=(m:Int):=hf.gen.width;have hfk:f.kill.width=(m:Int):=hf.kill.width;have hlg:f.gen.words.length≤1000:=by obtain⟨k,h1,h2,h3⟩:=Qka hf.gen.form;unfold Qj at h3;omega
 have hlk:f.kill.words.length≤1000:=by obtain⟨k,h1,h2,h3⟩:=Qka hf.kill.form;unfold Qj at h3;omega
 obtain⟨n,hn⟩:=Ze f.cops.length;have hn64:n≤64:=by have:=hf.len;omega
 obtain⟨ga,gn,gc,rfl⟩:=hA.gen.shape;obtain⟨ka,kn,kc,rfl⟩:=hA.kill.shape;obtain⟨ca,cc,rfl,-⟩:=hA.cops.cell;rw[hn];have SPG:=Zh (show ∀wr,QZ B wr bt→Qi wr (.slice ga gn gc) f.gen.words→Calls Tryz.prog 25 #[.pointer (some ⟨bt,0,none⟩),.agg #[iv m,.slice ga gn gc]] wr (Qav B bt wr) from fun wr h1 h2=>by
  have h:=QVu f.gen (.slice ga gn gc) wr h1 h2 (by rw[hfw];omega) (by rw[hfw];omega) hlg;unfold setV at h;rw[hfw] at h;exact h)
 have SPK:=Zh (show ∀wr,QZ B wr bt→Qi wr (.slice ka kn kc) f.kill.words→Calls Tryz.prog 25 #[.pointer (some ⟨bt,0,none⟩),.agg #[iv m,.slice ka kn kc]] wr (Qav B bt wr) from fun wr h1 h2=>by
  have h:=QVu f.kill (.slice ka kn kc) wr h1 h2 (by rw[hfk];omega) (by rw[hfk];omega) hlk;unfold setV at h;rw[hfk] at h;exact h)
 obtain⟨W,hW⟩:=Ze (((w.alloc (.cells #[iv m,.slice ga gn gc,iv m,.slice ka kn kc,.slice ca n cc] FNA)).alloc (.cells #[iv 0,.slice none 0 0,iv 0,.slice none 0 0,.slice none 0 0] FNA)).alloc (.cells #[iv m,.slice ga gn gc,iv m,.slice ka kn kc,.slice ca n cc] FNA));have B0:Below w.heap.size w W:=by rw[←hW];exact((Zb).alloc ZS _).alloc (by simp;omega) _
 have hWz:W.heap.size=w.heap.size+3:=by rw[←hW];simp
 have L3:=QNv (w:=w) (o1:=.cells #[iv m,.slice ga gn gc,iv m,.slice ka kn kc,.slice ca n cc] FNA) (o2:=.cells #[iv 0,.slice none 0 0,iv 0,.slice none 0 0,.slice none 0 0] FNA) (o3:=.cells #[iv m,.slice ga gn gc,iv m,.slice ka kn kc,.slice ca n cc] FNA);rw[hW] at L3;have HL0:=Zh L3.1;have HL1:=Zh L3.2.1;have HL2:=Zh L3.2.2;have HTW:=Zh (ht.below B0);have HBW:=Zh ((But.refl bt w).below B0);have HG:=Zh (hA.gen.below B0);have HK:=Zh (hA.kill.below B0);have HC:=Zh (Qg.same (w':=W.alloc (.cells #[] CT)) (hA.cops.below B0) Qf.alloc);have LN:=Zh (show(QHa f.cops).length=n*2 by rw[Qkv,hn]);have OC:=Zh (Qnv f.cops);have HN:=Zh hn;rw[hn] at HC;obtain⟨x0,x1,x2,x3,x4⟩:=QJ HL0.o;obtain⟨y0,y1,y2,y3,y4⟩:=QJ HL2.o;have y5:=(Qa HL2.o).2 4;have HF:=Zh hf;have HW:=Zh hW;rw[show trV f (.slice ga gn gc) (.slice ka kn kc) (.slice ca n cc)=.agg #[iv m,.slice ga gn gc,iv m,.slice ka kn kc,.slice ca n cc] by unfold trV;rw[hfw,hfk]];obtain⟨z,hz⟩:=Ze w.heap.size;have HZ:=Zh hz;rw[hz] at HL0 HL1 HL2 x0 x1 x2 x3 x4 y0 y1 y2 y3 y4 y5 hWz;obtain⟨q,hq⟩:=Ze (z+1+1);have HQ:=Zh hq;rw[show z+2=q from hq] at HL2 y0 y1 y2 y3 y4 y5;have hzw:z<W.heap.size:=by omega
 have hqw:q<W.heap.size:=by omega
 have HWz:=Zh hWz;clear hW B0 L3 ht hA hf hn hfw hfk hlg hlk hz hWz hq;go_enter Tryz.func26,Tryz.ntmps26;go_upto_region 2 with(fail)
 rw[show((w.alloc (.cells #[iv m,.slice ga gn gc,iv m,.slice ka kn kc,.slice ca n cc] FNA)).alloc (.cells #[iv 0,.slice none 0 0,iv 0,.slice none 0 0,.slice none 0 0] FNA)).alloc (.cells #[iv m,.slice ga gn gc,iv m,.slice ka kn kc,.slice ca n cc] FNA)=W from HW.o]
 try rw[HZ.o]
 try rw[HQ.o]
 go_upto_region 3 with(at_builtin;refine wpList_append_sl rfl _ _ 53 rfl W.heap.size CT _ 2 16 Tryz.underlying53 Qbf rfl ZD _ _ _ (Qxv W) rfl _ n (QHa f.cops) rfl HC.o LN.o OC.o (by unfold maxLen;omega) ZO ZS ?_;intro g c v1 own gr;simp only[Nat.zero_add,List.nil_append] at own;have BV1:Below W.heap.size W v1:=((Below.refl W.heap.size W).alloc (Nat.le_refl _) (.cells #[] CT)).trans (Below.of_grown gr (Qxv W) ZS);rw[show W.heap.size=q+1 by have:=HWz.o;have:=HQ.o;omega] at own;have J0:=Zh (SpT.start (m:=m) (w:=w) (fc:=.slice ca n cc) HF.o HTW.o HBW.o HL0.o HL1.o HL2.o HG.o HK.o BV1 (by have:=HWz.o;have:=HQ.o;omega) (show Qya (q+1) v1 (.slice g n c) f.cops by unfold Qya;rw[HN.o];exact own) ⟨by have:=HZ.o;omega,by have:=HQ.o;omega,by have:=HZ.o;omega⟩);have HQ1:=Zh ((BV1.block q hqw).trans HL2.o);have v4:=(Qa HQ1.o).1 4;have v5:=(Qa HQ1.o).2 4;simp only[Zx,Zy,Zz] at v4;clear own gr BV1 x0 x1 x2 x3 x4 y0 y1 y2 y3 y4 y5)
 clear v4 v5 HQ1 hzw hqw HC LN OC HL0 HL1 HL2 HTW HBW HG HK;go_wp2_with fail;refine(QLu J0.o.tape 5 ZO ZO).mono ?_;rintro e w2 ⟨x,x1,x2,rfl,ht2,hb2⟩;have J:=Zh (J0.o.next ht2 hb2);have hne:q≠z+1:=by have:=HQ.o;omega
 have hzq:z<q:=by have:=HQ.o;omega
 clear ht2 hb2 J0;by_cases h0:x=0
 ·subst h0;have hqw:=Qb J.o.cur;have q4:=QJ J.o.cur;obtain⟨k0,k1,k2,k3,k4⟩:=q4;have c4:=QJ J.o.res;obtain⟨c0,c1,c2,c3,c4⟩:=c4;have s4:=QJ J.o.src;obtain⟨s0,s1,s2,s3,s4⟩:=s4;have kf0:=(Qa J.o.cur).2 0;have kf1:=(Qa J.o.cur).2 1;have kf2:=(Qa J.o.cur).2 2;have kf3:=(Qa J.o.cur).2 3;have kf4:=(Qa J.o.cur).2 4;have cf0:=(Qa J.o.res).2 0;have cf1:=(Qa J.o.res).2 1;have cf2:=(Qa J.o.res).2 2;have cf3:=(Qa J.o.res).2 3;have cf4:=(Qa J.o.res).2 4;go_wp2_with fail;refine(SPG.o _ J.o.tape J.o.fgw).mono ?_;rintro e w3 ⟨s,u,rfl,hu,ht3,hb3⟩;have J3:=Zh (J.o.next ht3 hb3);have J4:=Zh (J3.o.setG hu);obtain⟨a',b',c',rfl⟩:=hu.shape;clear hu ht3 hb3 hqw k0 k1 k2 k3 k4 c0 c1 c2 c3 c4 s0 s1 s2 s3 s4 kf0 kf1 kf2 kf3 kf4 cf0 cf1 cf2 cf3 cf4;have hqw:=Qb J3.o.cur;have q4:=QJ J3.o.cur;obtain⟨k0,k1,k2,k3,k4⟩:=q4;have c4:=QJ J3.o.res;obtain⟨c0,c1,c2,c3,c4⟩:=c4;have s4:=QJ J3.o.src;obtain⟨s0,s1,s2,s3,s4⟩:=s4;have kf0:=(Qa J3.o.cur).2 0;have kf1:=(Qa J3.o.cur).2 1;have kf2:=(Qa J3.o.cur).2 2;have kf3:=(Qa J3.o.cur).2 3;have kf4:=(Qa J3.o.cur).2 4;have cf0:=(Qa J3.o.res).2 0;have cf1:=(Qa J3.o.res).2 1;have cf2:=(Qa J3.o.res).2 2;have cf3:=(Qa J3.o.res).2 3;have cf4:=(Qa J3.o.res).2 4;rw[show setV s (.slice a' b' c')=.agg #[iv s.width,.slice a' b' c'] from rfl];go_wp2;refine bodyPost_ret (v:=.agg #[iv s.width,.slice a' b' c',iv f.kill.width,.slice ka kn kc,.slice g n c]) (by simp[results,Tryz.results26,go_sem,k0,k1,k2,k3,k4,c0,c1,c2,c3,c4,hne,Ne.symm hne]) rfl ⟨_,_,_,_,rfl,(J4.o.fin _ _ _ _ _).1,(J4.o.fin _ _ _ _ _).2.1,(J4.o.fin _ _ _ _ _).2.2⟩
 by_cases h1:x=1
 ·subst h1;have hqw:=Qb J.o.cur;have q4:=QJ J.o.cur;obtain⟨k0,k1,k2,k3,k4⟩:=q4;have c4:=QJ J.o.res;obtain⟨c0,c1,c2,c3,c4⟩:=c4;have s4:=QJ J.o.src;obtain⟨s0,s1,s2,s3,s4⟩:=s4;have kf0:=(Qa J.o.cur).2 0;have kf1:=(Qa J.o.cur).2 1;have kf2:=(Qa J.o.cur).2 2;have kf3:=(Qa J.o.cur).2 3;have kf4:=(Qa J.o.cur).2 4;have cf0:=(Qa J.o.res).2 0;have cf1:=(Qa J.o.res).2 1;have cf2:=(Qa J.o.res).2 2;have cf3:=(Qa J.o.res).2 3;have cf4:=(Qa J.o.res).2 4;go_wp2_with fail;refine(SPK.o _ J.o.tape J.o.fkw).mono ?_;rintro e w3 ⟨s,u,rfl,hu,ht3,hb3⟩;have J3:=Zh (J.o.next ht3 hb3);have J4:=Zh (J3.o.setK hu);obtain⟨a',b',c',rfl⟩:=hu.shape;clear hu ht3 hb3 hqw k0 k1 k2 k3 k4 c0 c1 c2 c3 c4 s0 s1 s2 s3 s4 kf0 kf1 kf2 kf3 kf4 cf0 cf1 cf2 cf3 cf4;have hqw:=Qb J3.o.cur;have q4:=QJ J3.o.cur;obtain⟨k0,k1,k2,k3,k4⟩:=q4;have c4:=QJ J3.o.res;obtain⟨c0,c1,c2,c3,c4⟩:=c4;have s4:=QJ J3.o.src;obtain⟨s0,s1,s2,s3,s4⟩:=s4;have kf0:=(Qa J3.o.cur).2 0;have kf1:=(Qa J3.o.cur).2 1;have kf2:=(Qa J3.o.cur).2 2;have kf3:=(Qa J3.o.cur).2 3;have kf4:=(Qa J3.o.cur).2 4;have cf0:=(Qa J3.o.res).2 0;have cf1:=(Qa J3.o.res).2 1;have cf2:=(Qa J3.o.res).2 2;have cf3:=(Qa J3.o.res).2 3;have cf4:=(Qa J3.o.res).2 4;rw[show setV s (.slice a' b' c')=.agg #[iv s.width,.slice a' b' c'] from rfl];go_wp2;refine bodyPost_ret (v:=.agg #[iv f.gen.width,.slice ga gn gc,iv s.width,.slice a' b' c',.slice g n c]) (by simp[results,Tryz.results26,go_sem,k0,k1,k2,k3,k4,c0,c1,c2,c3,c4,hne,Ne.symm hne]) rfl ⟨_,_,_,_,rfl,(J4.o.fin _ _ _ _ _).1,(J4.o.fin _ _ _ _ _).2.1,(J4.o.fin _ _ _ _ _).2.2⟩
 by_cases h2:x=2
 ·subst h2;have hqw:=Qb J.o.cur;have q4:=QJ J.o.cur;obtain⟨k0,k1,k2,k3,k4⟩:=q4;have c4:=QJ J.o.res;obtain⟨c0,c1,c2,c3,c4⟩:=c4;have s4:=QJ J.o.src;obtain⟨s0,s1,s2,s3,s4⟩:=s4;have kf0:=(Qa J.o.cur).2 0;have kf1:=(Qa J.o.cur).2 1;have kf2:=(Qa J.o.cur).2 2;have kf3:=(Qa J.o.cur).2 3;have kf4:=(Qa J.o.cur).2 4;have cf0:=(Qa J.o.res).2 0;have cf1:=(Qa J.o.res).2 1;have cf2:=(Qa J.o.res).2 2;have cf3:=(Qa J.o.res).2 3;have cf4:=(Qa J.o.res).2 4;go_wp2_with fail;go_region_law (first
  |(go_simp;go_at_call 16;first|(refine(QLu (J.o.tape.drewN 1) 9 ZO ZO).mono ?_;rintro e w3 ⟨p,p1,p2,rfl,t3,b3⟩;have J3:=Zh (J.o.next t3 (But.undrew1 b3));clear t3 b3 hqw k0 k1 k2 k3 k4 c0 c1 c2 c3 c4 s0 s1 s2 s3 s4 kf0 kf1 kf2 kf3 kf4 cf0 cf1 cf2 cf3 cf4;have hqw:=Qb J3.o.cur;have q4:=QJ J3.o.cur;obtain⟨k0,k1,k2,k3,k4⟩:=q4;have c4:=QJ J3.o.res;obtain⟨c0,c1,c2,c3,c4⟩:=c4;have s4:=QJ J3.o.src;obtain⟨s0,s1,s2,s3,s4⟩:=s4;have kf0:=(Qa J3.o.cur).2 0;have kf1:=(Qa J3.o.cur).2 1;have kf2:=(Qa J3.o.cur).2 2;have kf3:=(Qa J3.o.cur).2 3;have kf4:=(Qa J3.o.cur).2 4;have cf0:=(Qa J3.o.res).2 0;have cf1:=(Qa J3.o.res).2 1;have cf2:=(Qa J3.o.res).2 2;have cf3:=(Qa J3.o.res).2 3;have cf4:=(Qa J3.o.res).2 4)|(go_must (refine(QLu J3.o.tape 9 ZO ZO).mono ?_;rintro e w4 ⟨r,r1,r2,rfl,t3,b3⟩;have J4:=Zh (J3.o.next t3 b3);have e1:IntKind.i64.wrap (p-1)=p-1:=IntWalk.i64_in _ ZO;have e2:IntKind.i64.wrap (r-1)=r-1:=IntWalk.i64_in _ ZO;clear t3 b3 hqw k0 k1 k2 k3 k4 c0 c1 c2 c3 c4 s0 s1 s2 s3 s4 kf0 kf1 kf2 kf3 kf4 cf0 cf1 cf2 cf3 cf4;have hqw:=Qb J4.o.cur;have q4:=QJ J4.o.cur;obtain⟨k0,k1,k2,k3,k4⟩:=q4;have c4:=QJ J4.o.res;obtain⟨c0,c1,c2,c3,c4⟩:=c4;have s4:=QJ J4.o.src;obtain⟨s0,s1,s2,s3,s4⟩:=s4;have kf0:=(Qa J4.o.cur).2 0;have kf1:=(Qa J4.o.cur).2 1;have kf2:=(Qa J4.o.cur).2 2;have kf3:=(Qa J4.o.cur).2 3;have kf4:=(Qa J4.o.cur).2 4;have cf0:=(Qa J4.o.res).2 0;have cf1:=(Qa J4.o.res).2 1;have cf2:=(Qa J4.o.res).2 2;have cf3:=(Qa J4.o.res).2 3;have cf4:=(Qa J4.o.res).2 4)))
  |(go_must (refine QYu [iv (p-1),iv (r-1)] rfl (.tmp 48) (.tmp 56) 53 (by rfl) (q+1) CT _ 2 16 Tryz.underlying53 Qbf rfl ZO _ n _ (by have h:=J4.o.cops;unfold Qya at h;rw[HN.o] at h;exact h) (by rfl) (by rfl) rfl rfl (by unfold maxLen;omega) ZO J4.o.qs ?_;intro g4 cap w5 own4 gr4 _ _;have J5:=Zh (J4.o.grow (l:=f.cops++[(p-1,r-1)]) (show Qya (q+1) w5 (.slice (some ⟨g4,0,none⟩) (n+1) cap) _ by have h:=Qya.push (n:=(p-1,r-1)) (l:=f.cops) (g:=g4) (cap:=cap) (by rw[HN.o];exact own4);rw[HN.o] at h;exact h) gr4);clear own4 gr4 hqw k0 k1 k2 k3 k4 c0 c1 c2 c3 c4 s0 s1 s2 s3 s4 kf0 kf1 kf2 kf3 kf4 cf0 cf1 cf2 cf3 cf4;have hqw:=Qb J5.o.2.1;have q4:=QJ J5.o.2.1;obtain⟨k0,k1,k2,k3,k4⟩:=q4;have c4:=QJ J5.o.2.2;obtain⟨c0,c1,c2,c3,c4⟩:=c4;have kf0:=(Qa J5.o.2.1).2 0;have kf1:=(Qa J5.o.2.1).2 1;have kf2:=(Qa J5.o.2.1).2 2;have kf3:=(Qa J5.o.2.1).2 3;have kf4:=(Qa J5.o.2.1).2 4;have cf0:=(Qa J5.o.2.2).2 0;have cf1:=(Qa J5.o.2.2).2 1;have cf2:=(Qa J5.o.2.2).2 2;have cf3:=(Qa J5.o.2.2).2 3;have cf4:=(Qa J5.o.2.2).2 4))
  |fail)
  all_goals
   go_wp2;refine bodyPost_ret (v:=.agg #[iv f.gen.width,.slice ga gn gc,iv f.kill.width,.slice ka kn kc,.slice (some ⟨g4,0,none⟩) (n+1) cap]) (by simp[results,Tryz.results26,go_sem,k0,k1,k2,k3,k4,c0,c1,c2,c3,c4,hne,Ne.symm hne]) rfl ⟨{ f with cops:=f.cops++[(p-1,r-1)] },_,_,_,rfl,(J5.o.1.fin _ _ _ _ _).1,(J5.o.1.fin _ _ _ _ _).2.1,(J5.o.1.fin _ _ _ _ _).2.2⟩
 by_cases h3:x=3
 ·subst h3;have hqw:=Qb J.o.cur;have q4:=QJ J.o.cur;obtain⟨k0,k1,k2,k3,k4⟩:=q4;have c4:=QJ J.o.res;obtain⟨c0,c1,c2,c3,c4⟩:=c4;have s4:=QJ J.o.src;obtain⟨s0,s1,s2,s3,s4⟩:=s4;have kf0:=(Qa J.o.cur).2 0;have kf1:=(Qa J.o.cur).2 1;have kf2:=(Qa J.o.cur).2 2;have kf3:=(Qa J.o.cur).2 3;have kf4:=(Qa J.o.cur).2 4;have cf0:=(Qa J.o.res).2 0;have cf1:=(Qa J.o.res).2 1;have cf2:=(Qa J.o.res).2 2;have cf3:=(Qa J.o.res).2 3;have cf4:=(Qa J.o.res).2 4;go_wp2_with fail;have HTD:=Zh (show QZ B w2.drew bt from J.o.tape.keep rfl (fun _ _=>rfl) (Nat.le_refl _));have HTN:=Zh (J.o.tape.drewN 1);go_region_law (first
  |(go_simp;go_at_call 16;first|((with_reducible refine(QLu J3.o.tape 2 ZO ZO).mono ?_);rintro e w4 ⟨r,r1,r2,rfl,t3,b3⟩;have J4:=Zh (J3.o.next t3 b3);have e1:IntKind.i64.wrap ((m:Int)-r)=(m:Int)-r:=IntWalk.i64_in _ ZO;clear t3 b3 hqw k0 k1 k2 k3 k4 c0 c1 c2 c3 c4 s0 s1 s2 s3 s4 kf0 kf1 kf2 kf3 kf4 cf0 cf1 cf2 cf3 cf4;have hqw:=Qb J4.o.cur;have q4:=QJ J4.o.cur;obtain⟨k0,k1,k2,k3,k4⟩:=q4;have c4:=QJ J4.o.res;obtain⟨c0,c1,c2,c3,c4⟩:=c4;have s4:=QJ J4.o.src;obtain⟨s0,s1,s2,s3,s4⟩:=s4;have kf0:=(Qa J4.o.cur).2 0;have kf1:=(Qa J4.o.cur).2 1;have kf2:=(Qa J4.o.cur).2 2;have kf3:=(Qa J4.o.cur).2 3;have kf4:=(Qa J4.o.cur).2 4;have cf0:=(Qa J4.o.res).2 0;have cf1:=(Qa J4.o.res).2 1;have cf2:=(Qa J4.o.res).2 2;have cf3:=(Qa J4.o.res).2 3;have cf4:=(Qa J4.o.res).2 4)|(go_must ((first|(with_reducible refine(QLu HTD.o 4 ZO ZO).mono ?_)|(with_reducible refine(QLu HTN.o 4 ZO ZO).mono ?_));rintro e w3 ⟨p,p1,p2,rfl,t3,b3⟩;have J3:=Zh (J.o.next t3 (show But bt w2 w3 from⟨b3.os,b3.tape,b3.output,b3.size,b3.block⟩));clear t3 b3 hqw k0 k1 k2 k3 k4 c0 c1 c2 c3 c4 s0 s1 s2 s3 s4 kf0 kf1 kf2 kf3 kf4 cf0 cf1 cf2 cf3 cf4;have hqw:=Qb J3.o.cur;have q4:=QJ J3.o.cur;obtain⟨k0,k1,k2,k3,k4⟩:=q4;have c4:=QJ J3.o.res;obtain⟨c0,c1,c2,c3,c4⟩:=c4;have s4:=QJ J3.o.src;obtain⟨s0,s1,s2,s3,s4⟩:=s4;have kf0:=(Qa J3.o.cur).2 0;have kf1:=(Qa J3.o.cur).2 1;have kf2:=(Qa J3.o.cur).2 2;have kf3:=(Qa J3.o.cur).2 3;have kf4:=(Qa J3.o.cur).2 4;have cf0:=(Qa J3.o.res).2 0;have cf1:=(Qa J3.o.res).2 1;have cf2:=(Qa J3.o.res).2 2;have cf3:=(Qa J3.o.res).2 3;have cf4:=(Qa J3.o.res).2 4)))
  |(refine QNu rfl (.tmp 70) (.tmp 72) 53 rfl (q+1) CT _ 2 16 Tryz.underlying53 Qbf rfl ZD _ _ _ (QWv (by have:=J4.o.qs;omega) p ((m:Int)-r)) rfl _ n (QHa f.cops) rfl (Qg.same (w:=w4) (by have h:=J4.o.cops.at_;unfold QKc at h;exact h) Qf.alloc) (by rw[Qkv,HN.o]) (Qnv f.cops) (by unfold maxLen;omega) ZO (by have:=J4.o.qs;simp;omega) ?_;intro g4 cap w5 own4 gr4;have J5:=Zh (J4.o.place (c:=(p,(m:Int)-r)) own4 gr4 HN.o);clear own4 gr4 hqw k0 k1 k2 k3 k4 c0 c1 c2 c3 c4 s0 s1 s2 s3 s4 kf0 kf1 kf2 kf3 kf4 cf0 cf1 cf2 cf3 cf4;have hqw:=Qb J5.o.2.1;have q4:=QJ J5.o.2.1;obtain⟨k0,k1,k2,k3,k4⟩:=q4;have c4:=QJ J5.o.2.2.1;obtain⟨c0,c1,c2,c3,c4⟩:=c4;have kf0:=(Qa J5.o.2.1).2 0;have kf1:=(Qa J5.o.2.1).2 1;have kf2:=(Qa J5.o.2.1).2 2;have kf3:=(Qa J5.o.2.1).2 3;have kf4:=(Qa J5.o.2.1).2 4;have cf0:=(Qa J5.o.2.2.1).2 0;have cf1:=(Qa J5.o.2.2.1).2 1;have cf2:=(Qa J5.o.2.2.1).2 2;have cf3:=(Qa J5.o.2.2.1).2 3;have cf4:=(Qa J5.o.2.2.1).2 4;have s0:=(Qa J5.o.2.2.2).1 0;simp only[List.getElem?_toArray,List.getElem?_cons_zero] at s0)
  |fail)
  all_goals
   go_wp2;refine bodyPost_ret (v:=.agg #[iv f.gen.width,.slice ga gn gc,iv f.kill.width,.slice ka kn kc,.slice g4 (1+n) cap]) (by simp[results,Tryz.results26,go_sem,k0,k1,k2,k3,k4,c0,c1,c2,c3,c4,hne,Ne.symm hne]) rfl ⟨{ f with cops:=(p,(m:Int)-r)::f.cops },_,_,_,rfl,(J5.o.1.fin _ _ _ _ _).1,(J5.o.1.fin _ _ _ _ _).2.1,(J5.o.1.fin _ _ _ _ _).2.2⟩
 obtain rfl:x=4:=by omega
 clear h0 h1 h2 h3;by_cases hn0:n=0
 ·subst hn0;have hqw:=Qb J.o.cur;have q4:=QJ J.o.cur;obtain⟨k0,k1,k2,k3,k4⟩:=q4;have c4:=QJ J.o.res;obtain⟨c0,c1,c2,c3,c4⟩:=c4;have s4:=QJ J.o.src;obtain⟨s0,s1,s2,s3,s4⟩:=s4;have kf0:=(Qa J.o.cur).2 0;have kf1:=(Qa J.o.cur).2 1;have kf2:=(Qa J.o.cur).2 2;have kf3:=(Qa J.o.cur).2 3;have kf4:=(Qa J.o.cur).2 4;have cf0:=(Qa J.o.res).2 0;have cf1:=(Qa J.o.res).2 1;have cf2:=(Qa J.o.res).2 2;have cf3:=(Qa J.o.res).2 3;have cf4:=(Qa J.o.res).2 4;go_wp2;refine bodyPost_ret (v:=.agg #[iv f.gen.width,.slice ga gn gc,iv f.kill.width,.slice ka kn kc,.slice g 0 c]) (by simp[results,Tryz.results26,go_sem,k0,k1,k2,k3,k4,c0,c1,c2,c3,c4,hne,Ne.symm hne]) rfl ⟨_,_,_,_,rfl,(J.o.fin _ _ _ _ _).1,(J.o.fin _ _ _ _ _).2.1,(J.o.fin _ _ _ _ _).2.2⟩
 ·have hlen:=HN.o;obtain⟨cp,hcp⟩:∃x,f.cops[n-1]? = some x:=⟨_,List.getElem?_eq_getElem (show n-1<f.cops.length by omega)⟩;obtain⟨a',c',e,-,-,-,hcell⟩:=J.o.cops.at_.cell;obtain⟨gb,of,rfl,hgb,m0,m1⟩:=hcell (n-1) cp hcp;injection e with e1 e2 e3
  subst e1 e3;clear e2;have hqw:=Qb J.o.cur;have OWC:=Zh (show w2.drew.ownsRow (q+1) CT 2 (.slice (some ⟨gb,of,none⟩) n c) n (QHa f.cops) by have h:=J.o.cops;unfold Qya at h;rw[HN.o] at h;exact h);have s1:IntKind.i64.wrap ((n:Int)-1)=(n:Int)-1:=IntWalk.i64_in _ ZO;have s2:0≤(n:Int)-1:=by omega
  have s3:((n:Int)-1).toNat=n-1:=by omega
  have s4:(n:Int)-1<(n:Int):=by omega
  have s5:(0:Int)<(n:Int):=by omega
  have s6:(1:Int)≤(n:Int):=by omega
  clear hlen hcell hcp hn0;have hqw:=Qb J.o.cur;have q4:=QJ J.o.cur;obtain⟨k0,k1,k2,k3,k4⟩:=q4;have c4:=QJ J.o.res;obtain⟨c0,c1,c2,c3,c4⟩:=c4;have s4:=QJ J.o.src;obtain⟨s0,s1,s2,s3,s4⟩:=s4;have kf0:=(Qa J.o.cur).2 0;have kf1:=(Qa J.o.cur).2 1;have kf2:=(Qa J.o.cur).2 2;have kf3:=(Qa J.o.cur).2 3;have kf4:=(Qa J.o.cur).2 4;have cf0:=(Qa J.o.res).2 0;have cf1:=(Qa J.o.res).2 1;have cf2:=(Qa J.o.res).2 2;have cf3:=(Qa J.o.res).2 3;have cf4:=(Qa J.o.res).2 4;go_wp2_with fail;go_region_law (first
  |(go_must (refine QYu (w:=w2.drew) [iv cp.1,iv cp.2] rfl (.tmp 19) (.tmp 28) 53 (by rfl) (q+1) CT _ 2 16 Tryz.underlying53 Qbf rfl ZO _ n _ OWC.o (by rfl) (by rfl) rfl rfl (by unfold maxLen;omega) ZO hqw ?_;intro g4 cap w5 own4 gr4 _ _;have J5:=Zh (J.o.grow (l:=f.cops++[cp]) (show Qya (q+1) w5 (.slice (some ⟨g4,0,none⟩) (n+1) cap) _ by have h:=Qya.push (n:=cp) (l:=f.cops) (g:=g4) (cap:=cap) (by rw[HN.o];exact own4);rw[HN.o] at h;exact h) (show w2.grownBy w5 _ from⟨gr4.os,gr4.tape,gr4.output,gr4.size,gr4.block⟩));clear own4 gr4 hqw k0 k1 k2 k3 k4 c0 c1 c2 c3 c4 s0 s1 s2 s3 s4 kf0 kf1 kf2 kf3 kf4 cf0 cf1 cf2 cf3 cf4;have hqw:=Qb J5.o.2.1;have q4:=QJ J5.o.2.1;obtain⟨k0,k1,k2,k3,k4⟩:=q4;have c4:=QJ J5.o.2.2;obtain⟨c0,c1,c2,c3,c4⟩:=c4;have kf0:=(Qa J5.o.2.1).2 0;have kf1:=(Qa J5.o.2.1).2 1;have kf2:=(Qa J5.o.2.1).2 2;have kf3:=(Qa J5.o.2.1).2 3;have kf4:=(Qa J5.o.2.1).2 4;have cf0:=(Qa J5.o.2.2).2 0;have cf1:=(Qa J5.o.2.2).2 1;have cf2:=(Qa J5.o.2.2).2 2;have cf3:=(Qa J5.o.2.2).2 3;have cf4:=(Qa J5.o.2.2).2 4))
  |fail)
  all_goals
   go_wp2;refine bodyPost_ret (v:=.agg #[iv f.gen.width,.slice ga gn gc,iv f.kill.width,.slice ka kn kc,.slice (some ⟨g4,0,none⟩) (n+1) cap]) (by simp[results,Tryz.results26,go_sem,k0,k1,k2,k3,k4,c0,c1,c2,c3,c4,hne,Ne.symm hne]) rfl ⟨{ f with cops:=f.cops++[cp] },_,_,_,rfl,(J5.o.1.fin _ _ _ _ _).1,(J5.o.1.fin _ _ _ _ _).2.1,(J5.o.1.fin _ _ _ _ _).2.2⟩
end
section
open Go.RowKit
variable [Base]
theorem QAb {P:Program}{ops:Array Oper}{Q:Exit→Act→World→Prop}{K:Act→World→Prop}(i:Nat)(d:Option Tmp){oi:Oper}{a:Act}{w:World}(hi:ops[i]? = some oi)(hwant:Region.wanted oi (yielded ops a.tmps)=true)(hd:oi.dst=d)(s x:Operand)(t:TypeId)(ho:oi.op=.call { callee:=.builtin .append,args:=#[s,x],argTypes:=#[t,t] })(base:Nat)(e:TypeId)(z:Value)(size bytes:Nat)(ht:P.underlying t=some (.slice e))(hin:(P.info? e).map (fun i=>(i.zero,i.size,i.bytes))=some (some z,size,bytes))(hzs:z.cells.size=size)(hsz:0<size)(v:Value)(n:Nat)(xs:List Value)(hown:w.ownsRow base e size v n xs)(hs:a.eval s=v)(u:Value)(m:Nat)(ys:List Value)(hx:a.eval x=u)(hsl:Qg w e size u ys)(hm:ys.length=m*size)(h1:ys.all Value.oneCell'=true)(h63:n+m≤maxLen)(hbytes:(n+m)*bytes≤140737488355328)(hbase:base≤w.heap.size)(h:∀g c w',w'.ownsRow base e size (.slice g (n+m) c) (n+m) (xs++ys)→w.grownBy w' v.ownBlock→K (a.put d (.slice g (n+m) c)) w'):wpOp P ops Q i K a w:=by
 subst hd;unfold wpOp;rw[hi];show if Region.wanted oi (yielded ops a.tmps) then _ else _
 rw[if_pos hwant];exact .inl (Qlf s x t ho base e z size bytes ht hin hzs hsz v n xs hown hs u m ys hx hsl hm h1 h63 hbytes hbase h)
theorem Qzg:(Tryz.prog.info? IT).map (fun i=>(i.zero,i.size,i.bytes))=some (some (Value.slice none 0 0),1,24):=by kernel_rfl
theorem DrK.cells {B bt z q m p:Nat}{w wr:World}{kv bu:Value}{k:List Int}{s:QSet}{cd ct cb dv tv bv:Value}{ds:List (List Int)}{ts:List Qw}{bs:List QSet}(h:DrK B bt z q m p w wr kv bu k s cd ct cb dv tv bv ds ts bs):
  (((((wr.cell? ⟨q,0,none⟩=some (iv m)∧wr.cell? ⟨q,1,none⟩=some cd)∧wr.cell? ⟨q,2,none⟩=some ct)∧wr.cell? ⟨q,3,none⟩=some cb)∧wr.cell? ⟨p,0,none⟩=some (iv m))∧wr.cell? ⟨p,1,none⟩=some bu):=by
 have hc:=(Qa h.cur).1;have hp:=(Qa h.pb).1;exact⟨⟨⟨⟨⟨hc 0,hc 1⟩,hc 2⟩,hc 3⟩,hp 0⟩,hp 1⟩
structure SmS (n m:Nat)(ds:List (List Int))(ts:List Qw)(bs:List QSet):Prop where
 dep:∀l∈ds,ascB n l=true∧l.length≤3
 okT:∀t∈ts,OkT m t
 okB:∀b∈bs,Ok m b
theorem SmS.nil {n m:Nat}:SmS n m [] [] []:=⟨by simp,by simp,by simp⟩
theorem SmS.push {n m:Nat}{ds:List (List Int)}{ts:List Qw}{bs:List QSet}(h:SmS n m ds ts bs){k:List Int}{t:Qw}{b:QSet}(hk:ascB n k=true)(hl:k.length≤3)(ht:OkT m t)(hb:Ok m b):SmS n m (ds++[k]) (ts++[t]) (bs++[b]):=by
 refine⟨fun l hm=>?_,fun x hm=>?_,fun x hm=>?_⟩
 ·rcases List.mem_append.1 hm with hm|hm
  ·exact h.dep l hm
  ·rw[List.mem_singleton] at hm;subst hm;exact⟨hk,hl⟩
 ·rcases List.mem_append.1 hm with hm|hm
  ·exact h.okT x hm
  ·rw[List.mem_singleton] at hm;subst hm;exact ht
 ·rcases List.mem_append.1 hm with hm|hm
  ·exact h.okB x hm
  ·rw[List.mem_singleton] at hm;subst hm;exact hb
theorem QEg:∀(l:List Int) (a:Int),l.foldl (fun x y=>x+y) a=a+l.foldl (fun x y=>x+y) 0
|[],a=>by simp
|x::r,a=>by
  rw[List.foldl_cons,List.foldl_cons,QEg r,QEg r (0+x)]
  omega
theorem Qfk:∀(ds:List (List Int)),(∀l∈ds,l.length≤3)→totI ds≤3*(ds.length:Int)
|[],_=>by simp[totI,sumI]
|l::r,h=>by
  have h1:=Qfk r (fun x hx=>h x (by simp[hx]))
  have h2:=h l ZS
  have e:totI (l::r)=lenI l+totI r:=by
   unfold totI sumI;rw[List.map_cons,List.foldl_cons,QEg,Int.zero_add]
  rw[e,List.length_cons];unfold lenI;omega
theorem SmS.ok {n m:Nat}{ds:List (List Int)}{ts:List Qw}{bs:List QSet}(h:SmS n m ds ts bs)(h1:1≤n)(hn:n≤16)(hm:m≤16)(hd:ds.length=n)(ht:ts.length=n)(hb:bs.length=n):QSd n m ⟨m,ds,ts,bs⟩:=
 ⟨rfl,by omega,h1,by omega,hd,ht,hb,fun l hl=>(h.dep l hl).1,by have:=Qfk ds (fun l hl=>(h.dep l hl).2);rw[hd] at this;show totI ds≤1024;omega,h.okB,h.okT⟩
theorem Qss (l:List Int)(x:Int):(insI l x).length≤l.length+1:=by
 unfold insI
 split
 ·omega
 ·have h:=congrArg List.length (List.takeWhile_append_dropWhile (p:=(decide <| · < x)) (l:=l));simp only[List.length_append,List.length_cons] at h ⊢;omega
theorem QAh.but {B bt:Nat}{w w':World}{v:Value}{l:List Int}(h:QAh w v l)(ht:QZ B w bt)(hb:But bt w w'):QAh w' v l:=⟨Qg.same h.1 (hb.sameT ht ZD),h.2⟩
theorem QAh.sl {w:World}{v:Value}{l:List Int}(h:QAh w v l):∃a n c,v=.slice a n c:=by
 rcases h.2 with⟨rfl,-⟩|⟨b,o,c,rfl⟩ <;> exact⟨_,_,_,rfl⟩
structure DepL (n d:Nat)(k:List Int):Prop where
 asc:Asc k
 rng:∀x∈k,0≤x∧x<n
 len:k.length+d≤3
theorem DepL.ins {n d:Nat}{k:List Int}(h:DepL n d k)(hd:0<d){x:Int}(h0:0≤x)(h1:x<n):DepL n (d-1) (insI k x):=
 ⟨QYs h.asc,fun y hy=>by
  rcases Qls.1 hy with hy|rfl
  ·exact h.rng y hy
  ·exact⟨h0,h1⟩,by have:=Qss k x;have:=h.len;omega⟩
theorem set4h {w:World}{b:Nat}{a0 a1 a2 a3:Value}{t:TypeId}{fr:Nat×Nat}(h:w.heap[b]? = some (.cells #[a0,a1,a2,a3] t fr))(x0 x1 x2 x3:Value):
  ((((w.setCell ⟨b,0,none⟩ x0).setCell ⟨b,1,none⟩ x1).setCell ⟨b,2,none⟩ x2).setCell ⟨b,3,none⟩ x3).heap[b]? = some (.cells #[x0,x1,x2,x3] t fr):=by
 simp[World.setCell,Array.getElem?_modify,h]
theorem QO {b:Nat}{w:World}{v0 v1 v2 v3:Value}{t:TypeId}(h:w.heap[b]? = some (.cells #[v0,v1,v2,v3] t (0,0))):
  w.cell? ⟨b,0,none⟩=some v0∧w.cell? ⟨b,1,none⟩=some v1∧w.cell? ⟨b,2,none⟩=some v2∧w.cell? ⟨b,3,none⟩=some v3:=by
 have hc:=(Qa h).1;exact⟨hc 0,hc 1,hc 2,hc 3⟩
def Qaq (B bt:Nat)(w:World)(e:Ending)(w':World):Prop:=
 ∃s n m dv tv bv,e=.returned (sysV s dv tv bv)∧QSd n m s∧n≤16∧m≤4∧QKd w' dv tv bv s∧QZ B w' bt∧But bt w w'
theorem rem5 (r:Nat)(h:r≤8):∃m:Nat,m≤4∧(r:Int).tmod 5=m:=⟨r % 5,by omega,by rw[Int.tmod_eq_emod_of_nonneg ZO];omega⟩
theorem QXm {B bt:Nat}(n0:Nat)(hn0:1≤n0)(hn1:n0≤16)(w:World)(ht:QZ B w bt):Calls Tryz.prog 23 #[.pointer (some ⟨bt,0,none⟩),iv n0] w (Qaq B bt w):=by
 have hlt:=ht.lt;obtain⟨z,hz⟩:=Ze w.heap.size;obtain⟨W,hW⟩:=Ze (w.alloc (.cells #[iv 0,.slice none 0 0,.slice none 0 0,.slice none 0 0] SYT));have HW:=Zh hW;have HZ:=Zh hz;have HTW:=Zh (show QZ B W bt by rw[←hW];exact ht.alloc _);have HBW:=Zh (show But bt w W by rw[←hW];exact(But.refl bt w).alloc _);have HRW:=Zh (show W.heap[z]? = some (.cells #[iv 0,.slice none 0 0,.slice none 0 0,.slice none 0 0] SYT (0,0)) by rw[←hW,←hz];exact heap_alloc_new _ _);clear ht hW;go_enter Tryz.func23,Tryz.ntmps23;go_upto_region 1 with(fail)
 rw[show w.alloc (.cells #[iv 0,.slice none 0 0,.slice none 0 0,.slice none 0 0] SYT)=W from HW.o]
 try rw[hz]
 go_wp2_with fail;refine(Qfq W HTW.o).mono ?_;rintro e v1 ⟨r,hr,rfl,t1,b1⟩;have T1:=Zh t1;have B1:=Zh b1;obtain⟨m,hm,hrm⟩:=rem5 r hr;have hwr:wrap64 ((r:Int).tmod 5)=m:=by rw[hrm];exact IntWalk.wrap64_in _ ZO
 clear t1 b1;obtain⟨q,hq⟩:=Ze v1.heap.size;obtain⟨V,hV⟩:=Ze (v1.alloc (.cells #[iv m,.slice none 0 0,.slice none 0 0,.slice none 0 0] SYT));have HV:=Zh hV;have I0:=Zh (show DrS B bt z q m w V (.slice none 0 0) (.slice none 0 0) (.slice none 0 0) [] [] [] by
  have hz2:=Qb HRW.o;have hzs:=HZ.o;have hs1:=B1.o.size;rw[←hV,←hq];exact⟨T1.o.alloc _,(HBW.o.trans B1.o).alloc _,Qz _ ((B1.o.block z hz2 ZO).trans HRW.o),heap_alloc_new _ _,QG.nil,QG.nil,QG.nil,by omega,by omega,by omega⟩)
 clear T1 B1 HRW HBW HTW hV;go_upto_region 2 with(fail)
 rw[show v1.alloc (.cells #[iv m,.slice none 0 0,.slice none 0 0,.slice none 0 0] SYT)=V from HV.o]
 try rw[hq]
 go_wp2_with fail;refine(QMc I0.o.tape n0 ZO).mono ?_;rintro e v2 ⟨r2,x1,x2,rfl,t2,b2⟩;obtain⟨n,hn⟩:∃n:Nat,1+r2=n:=⟨(1+r2).toNat,by omega⟩;have hnn:1≤n∧n≤16:=by omega
 have I1:=Zh (I0.o.next t2 b2);have hwn:wrap64 (1+r2)=n:=by rw[hn];exact IntWalk.wrap64_in _ ZO
 clear t2 b2 I0;go_upto_region 3 with(fail)
 clear hwn hn x1 x2 hwr hrm;go_wp2_with fail;go_loopw [6] (fun y wr=>∃(i:Nat) (dv tv bv:Value) (ds:List (List Int)) (ts:List Qw) (bs:List QSet),i≤n∧y=.int .i64 i∧Hid (DrS B bt z q m w wr dv tv bv ds ts bs)∧Hid (SmS n m ds ts bs)∧Hid (ds.length=i∧ts.length=i∧bs.length=i)) (fun y _=>n-(intOf y).toNat)
 case atStart=>exact⟨0,_,_,_,_,_,_,Nat.zero_le _,rfl,I1.o,SmS.nil,Zh ⟨rfl,rfl,rfl⟩⟩
 case round=>
  clear I1;obtain⟨i,dv,tv,bv,ds,ts,bs,hi,rfl,HI,HSM,HL⟩:=hrel;by_cases hlt:i<n;rotate_left
  ·obtain rfl:i=n:=by omega
   obtain⟨da,dc,rfl⟩:=HI.o.dp.slice;obtain⟨ta,tc,rfl⟩:=HI.o.tr.slice;obtain⟨ba,bc,rfl⟩:=HI.o.bd.slice;rw[HL.o.1,HL.o.2.1,HL.o.2.2] at HI;have hbz:=HI.o.zb;have hzo:=HI.o.old.1;have R0:=Zh HI.o.res;obtain⟨t0,t1,t2,t3⟩:=QO HI.o.cur;obtain⟨c0,c1,c2,c3⟩:=QO R0.o;have f0:=(Qa R0.o).2 0;have f1:=(Qa R0.o).2 1;have f2:=(Qa R0.o).2 2;have f3:=(Qa R0.o).2 3;have E4:=Zh (set4h R0.o (iv m) (.slice da i dc) (.slice ta i tc) (.slice ba i bc));have HQ:=Zh (show Qaq B bt w (.returned (.agg #[iv m,.slice da i dc,.slice ta i tc,.slice ba i bc])) ((((wr.setCell ⟨z,0,none⟩ (iv m)).setCell ⟨z,1,none⟩ (.slice da i dc)).setCell ⟨z,2,none⟩ (.slice ta i tc)).setCell ⟨z,3,none⟩ (.slice ba i bc)) by
    have hge:=HI.o.tape.ge;have hbw:=HI.o.old.2.2;have hne:∀o:Nat,(⟨z,o,none⟩:Addr).block≠bt:=fun o=>by show z≠bt;omega
    have hB:∀o:Nat,B≤(⟨z,o,none⟩:Addr).block:=fun o=>by show B≤z;omega
    have ho:∀o:Nat,w.heap.size≤(⟨z,o,none⟩:Addr).block:=fun o=>hzo
    refine⟨⟨m,ds,ts,bs⟩,i,m,.slice da i dc,.slice ta i tc,.slice ba i bc,rfl,HSM.o.ok hnn.1 hnn.2 ZO HL.o.1 HL.o.2.1 HL.o.2.2,hnn.2,hm,?_,
     (((HI.o.tape.setCell (hne _) (hB _) _).setCell (hne _) (hB _) _).setCell (hne _) (hB _) _).setCell (hne _) (hB _) _,
     (((HI.o.but.setCell _ (.inr (ho _)) _).setCell _ (.inr (ho _)) _).setCell _ (.inr (ho _)) _).setCell _ (.inr (ho _)) _⟩
    exact(QKd.mk HI.o.dp.rows HI.o.tr.rows HI.o.bd.rows:QKd wr _ _ _ ⟨m,ds,ts,bs⟩).keep fun U hU=>Qsg (Qv R0.o ZO) (by
     intro h;subst h;revert hU;decide) _ _ _ _)
   go_wp2;obtain⟨g0,g1,g2,g3⟩:=QO E4.o;exact bodyPost_ret (v:=.agg #[iv m,.slice da i dc,.slice ta i tc,.slice ba i bc]) (by simp[results,Tryz.results23,go_sem,g0,g1,g2,g3]) rfl HQ.o
  ·go_wp2_with (go_at_call 16;refine(QMc HI.o.tape 4 ZO).mono ?_;rintro e w2 ⟨x,x1,x2,rfl,ht2,hb2⟩;have J:=Zh (HI.o.next ht2 hb2);clear ht2 hb2 HI);obtain⟨dd,hdd⟩:=Int.eq_ofNat_of_zero_le x1;subst hdd;have hd3:dd≤3:=by omega
   clear x1 x2;go_loopw [7,8] (fun y7 y8 wr=>∃(d:Nat) (k:List Int),y8=.int .i64 d∧Hid (DrS B bt z q m w wr dv tv bv ds ts bs)∧Hid (QAh wr y7 k)∧Hid (DepL n d k)) (fun _ y _=>(intOf y).toNat)
   case atStart=>exact⟨dd,[],rfl,J.o,⟨Qg.nil,.inl ⟨rfl,rfl⟩⟩,⟨List.Pairwise.nil,by simp,by simpa using hd3⟩⟩
   case round=>
    clear J;obtain⟨d,k,rfl,HJ,HK,HD⟩:=hrel;rcases Nat.eq_zero_or_pos d with rfl|hdp
    ·obtain⟨ka,kn,kc,hk7⟩:=HK.o.sl;subst hk7;obtain⟨L0,L1,L2,L3⟩:=QO HJ.o.cur;go_wp2_with fail;refine(Qjc m ZO _).mono ?_;rintro e w3 ⟨u,rfl,ho,b3⟩;obtain⟨ua,un,uc,rfl⟩:=ho.words.shape;have J3:=Zh (HJ.o.next (HJ.o.tape.below b3) ((But.refl _ _).below b3));have K3:=Zh (HK.o.but HJ.o.tape ((But.refl _ _).below b3));have O3:=Zh ho;rw[show setV (Qy m) (.slice ua un uc)=.agg #[iv m,.slice ua un uc] from rfl];obtain⟨p,hp⟩:=Ze w3.heap.size;obtain⟨W3,hW3⟩:=Ze (w3.alloc (.cells #[iv m,.slice ua un uc] ST));have HW3:=Zh hW3;have B3:=Zh (show But bt w3 W3 by rw[←hW3];exact(But.refl _ _).alloc _);have T3:=Zh (show QZ B W3 bt by rw[←hW3];exact J3.o.tape.alloc _);have P3:=Zh (show W3.heap[p]? = some (.cells #[iv m,.slice ua un uc] ST (0,0)) by rw[←hW3,←hp];exact heap_alloc_new _ _);have U3:=Zh (show Qi W3 (.slice ua un uc) (Qy m).words by rw[←hW3];exact ho.words.keep Qf.alloc);have HQP:=Zh (show q<p by rw[←hp];exact J3.o.qs);have HPN:=Zh (show some p≠bv.ownBlock by
      obtain⟨yss,hy,-⟩:=J3.o.bd;rcases hy.2 with⟨rfl,-⟩|⟨g,cap,cur,rfl,hg,hh,-⟩
      ·simp[Value.ownBlock]
      ·intro h;have h2:p=g:=by simpa [Value.ownBlock] using h
       have h3:=Qb hh;omega)
     clear ho b3 hW3 L0 L1 L2 L3;go_upto_region 12 with(fail)
     rw[show w3.alloc (.cells #[iv m,.slice ua un uc] ST)=W3 from HW3.o]
     try rw[hp]
     clear HJ HK HW3;go_upto_if 39 with(go_at_call 16;refine(QMc T3.o 3 ZO).mono ?_;rintro e w4 ⟨x,x1,x2,rfl,ht4,hb4⟩;have T4:=Zh ht4;have B4:=Zh (B3.o.trans hb4);have P4:=Zh ((hb4.block p (Qb P3.o) (by have:=J3.o.old;have:=HQP.o;omega)).trans P3.o);have U4:=Zh (U3.o.keep (hb4.sameT T3.o ZD));clear ht4 hb4)
     go_cut [9] from 38 to 44 (fun s9 wx=>∃(s:QSet) (bu:Value),s9=.pointer (some ⟨p,0,none⟩)∧Hid (Ok m s)∧Hid (DrK B bt z q m p w wx (.slice ka kn kc) bu k s dv tv bv dv tv bv ds ts bs))
     case first=>
      by_cases h1:x=1;rotate_left
      ·have t1:(x==1)=false:=by simpa using h1
       have HX:=Zh (show DrK B bt z q m p w w4 (.slice ka kn kc) (.slice ua un uc) k (Qy m) dv tv bv dv tv bv ds ts bs by
        have j:=J3.o.next T4.o B4.o;exact⟨j.tape,j.but,j.res,j.cur,j.dp,j.tr,j.bd,P4.o,(K3.o.but J3.o.tape B4.o).1,U4.o,j.old.1,j.old.2.1,j.old.2.2,HQP.o⟩)
       have HE:=Zh (show Ok m (Qy m) from QOb ZO);clear h1;go_wp2;go_meet
       case rel=>exact⟨_,_,rfl,HE.o,HX.o⟩
      ·subst h1;obtain⟨L0,L1,L2,L3⟩:=QO (J3.o.next T4.o B4.o).cur;go_wp2_with fail;refine(Qfb m ZO _ T4.o).mono ?_;rintro e w5 ⟨s5,u5,rfl,hf5,hw5,hok5,hu5,ht5,hb5⟩;obtain⟨va,vn,vc,rfl⟩:=hu5.shape;have P5:=Zh ((hb5.block p (Qb P4.o) (by have:=J3.o.old;have:=HQP.o;omega)).trans P4.o);obtain⟨c0,c1⟩:=Qq P5.o;have f0:=(Qa P5.o).2 0;have f1:=(Qa P5.o).2 1;have HE:=Zh (show Ok m s5 from⟨hf5,hok5,hw5⟩);have HX:=Zh (show DrK B bt z q m p w ((w5.setCell ⟨p,0,none⟩ (iv m)).setCell ⟨p,1,none⟩ (.slice va vn vc)) (.slice ka kn kc) (.slice va vn vc) k s5 dv tv bv dv tv bv ds ts bs by
        have hge:=J3.o.tape.ge;have hbs:=J3.o.zb;have hold:=J3.o.old;have hqp:=HQP.o;have hT:tyAt w5 p=some ST:=Qv P5.o ZO;have tt:QZ B ((w5.setCell ⟨p,0,none⟩ (iv m)).setCell ⟨p,1,none⟩ (.slice va vn vc)) bt:=(ht5.setCell (by show p≠bt;omega) (by show B≤p;omega) _).setCell (by show p≠bt;omega) (by show B≤p;omega) _;have bb:But bt w3 ((w5.setCell ⟨p,0,none⟩ (iv m)).setCell ⟨p,1,none⟩ (.slice va vn vc)):=((B4.o.trans hb5).setCell ⟨p,0,none⟩ (.inr (by show w3.heap.size≤p;omega)) _).setCell ⟨p,1,none⟩ (.inr (by show w3.heap.size≤p;omega)) _;have j:=J3.o.next tt bb;refine⟨j.tape,j.but,j.res,j.cur,j.dp,j.tr,j.bd,?_,(K3.o.but J3.o.tape bb).1,?_,j.old.1,j.old.2.1,j.old.2.2,HQP.o⟩
        ·have h:=P5.o;simp[World.setCell,Array.getElem?_modify,h]
        ·exact hu5.keep ((Qf.setCell (U:=ST) hT ZD).trans (Qf.setCell (U:=ST) ((QS p).trans hT) ZD)))
       rw[show setV s5 (.slice va vn vc)=.agg #[iv m,.slice va vn vc] by unfold setV;rw[hw5]];clear hf5 hw5 hok5 hu5 ht5 hb5;go_wp2;go_meet
       case rel=>exact⟨_,_,rfl,HE.o,HX.o⟩
     case rest=>
      obtain⟨s5,bu,rfl,HE,HX⟩:=hcut;clear T4 B4 P4 U4 T3 B3 P3 U3 O3 K3 J3;obtain⟨da,dc,rfl⟩:=HX.o.dp.slice;obtain⟨ta,tc,rfl⟩:=HX.o.tr.slice;obtain⟨ba,bc,rfl⟩:=HX.o.bd.slice;obtain⟨va,vn,vc,rfl⟩:=HX.o.wb.shape;have hbq:Base.b≤q+1:=by have:=HX.o.zb;have:=HX.o.old;omega
      have hdl:ds.length≤16:=by have:=HL.o.1;omega
      have htl:ts.length≤16:=by have:=HL.o.2.1;omega
      have hbl:bs.length≤16:=by have:=HL.o.2.2;omega
      have HAK:=Zh (show ascB n k=true∧k.length≤3 from⟨QQj HD.o.asc HD.o.rng (fun q h=>by cases h),by have:=HD.o.len;omega⟩);go_upto_region 14 with(fail)
      refine Qdi (S:=fun w'=>(((((w'.cell? ⟨q,0,none⟩=some (iv m)∧w'.cell? ⟨q,1,none⟩=some (.slice da ds.length dc))∧w'.cell? ⟨q,2,none⟩=some (.slice ta ts.length tc))∧w'.cell? ⟨q,3,none⟩=some (.slice ba bs.length bc))∧w'.cell? ⟨p,0,none⟩=some (iv m))∧w'.cell? ⟨p,1,none⟩=some (.slice va vn vc))) (st:=19) ZK ?_;obtain⟨W0_,hW0⟩:=Ze (wc.drewN 1);rw[hW0];have HK0:=Zh (show DrK B bt z q m p w W0_ _ _ _ _ _ _ _ _ _ _ _ _ _ by rw[←hW0];exact HX.o.drew 1);clear hW0 HX;have hS0:(fun w':World=>(((((w'.cell? ⟨q,0,none⟩=some (iv m)∧w'.cell? ⟨q,1,none⟩=some (.slice da ds.length dc))∧w'.cell? ⟨q,2,none⟩=some (.slice ta ts.length tc))∧w'.cell? ⟨q,3,none⟩=some (.slice ba bs.length bc))∧w'.cell? ⟨p,0,none⟩=some (iv m))∧w'.cell? ⟨p,1,none⟩=some (.slice va vn vc))) W0_:=HK0.o.cells;refine Yl 0 44 [] ?_;refine Yl 1 45 [] ?_;refine Yl 2 46 [] ?_;refine Yl 5 49 [] ?_;refine Yl 6 50 [] ?_;refine Yl 7 51 [8,9,15,17] ?_;refine Yl 10 54 [] ?_;refine Yl 11 55 [] ?_;refine Yl 12 56 [15,17] ?_;refine Yl 13 57 [] ?_;refine Yl 14 58 [] ?_;refine Qn (rs:=[3,8]) ZK ZD ?_;intro j hj;have hj2:j=3∨j=8:=by simpa using hj
      clear hj;rcases hj2 with rfl|rfl
      ·obtain⟨W12_,hW12⟩:=Ze (W0_.alloc (.cells #[.slice ka kn kc] IT));refine Qs 3 (some 47) (.slice (some ⟨W0_.heap.size,0,none⟩) 1 1) W12_ rfl ZK ?rva12 rfl ?_
       case rva12=>rw[←hW12];go_simp
       have HK12:=Zh (show DrK B bt z q m p w W12_ _ _ _ _ _ _ _ _ _ _ _ _ _ by rw[←hW12];exact HK0.o.alloc _);have EI12:=Zh (show Qg W12_ IT 1 (.slice (some ⟨W0_.heap.size,0,none⟩) 1 1) [.slice ka kn kc] by rw[←hW12];exact Qg.new [.slice ka kn kc] 1 rfl ZD);clear hW12;clear hS0;refine Zi HK12.o.cells fun hS0=>?_
       refine Qn (rs:=[4,8]) ZK ZD ?_;intro j hj;have hj2:j=4∨j=8:=by simpa using hj
       clear hj;rcases hj2 with rfl|rfl
       ·obtain⟨xs13,ho13,hx13⟩:=HK12.o.dp;refine QAb 4 (some 48) rfl ZK rfl _ _ 32 rfl (q+1) IT _ 1 24 Tryz.underlying32 Qzg rfl ZD (.slice da ds.length dc) ds.length xs13.flatten ho13 ZK (.slice (some ⟨W0_.heap.size,0,none⟩) 1 1) 1 [.slice ka kn kc] ZK EI12.o rfl rfl (by unfold maxLen;omega) ZO HK12.o.qs ?_;intro g13 c13 W13_ hr13 hg13;have HK13:=Zh (show DrK B bt z q m p w W13_ (.slice ka kn kc) (.slice va vn vc) k s5 (.slice da ds.length dc) (.slice ta ts.length tc) (.slice ba bs.length bc) (.slice g13 (ds.length+1) c13) (.slice ta ts.length tc) (.slice ba bs.length bc) (ds++[k]) ts bs from HK12.o.pushD ho13 hx13 hr13 hg13);clear ho13 hx13 hr13 hg13;clear hS0;refine Zi HK13.o.cells fun hS0=>?_
        refine Yl 18 62 [] ?_;refine Zo 8 ?_;obtain⟨W15_,hW15⟩:=Ze (W13_.alloc (.cells #[iv m,.slice va vn vc] ST));refine Qs 8 (some 52) (.slice (some ⟨W13_.heap.size,0,none⟩) 1 1) W15_ rfl ZK ?rva15 rfl ?_
        case rva15=>rw[←hW15];go_simp
        have HK15:=Zh (show DrK B bt z q m p w W15_ _ _ _ _ _ _ _ _ _ _ _ _ _ by rw[←hW15];exact HK13.o.alloc _);have ES15:=Zh (show Qg W15_ ST 2 (.slice (some ⟨W13_.heap.size,0,none⟩) 1 1) [iv m,.slice va vn vc] by rw[←hW15];exact Qg.new [iv m,.slice va vn vc] 1 rfl ZD);clear hW15;clear hS0;refine Zi HK15.o.cells fun hS0=>?_
        refine Zo 9 ?_;obtain⟨xs16,ho16,hx16⟩:=HK15.o.bd;refine QAb 9 (some 53) rfl ZK rfl _ _ 34 rfl (q+1) ST _ 2 32 Tryz.underlying34 Qwd rfl ZD (.slice ba bs.length bc) bs.length xs16.flatten ho16 ZK (.slice (some ⟨W13_.heap.size,0,none⟩) 1 1) 1 [iv m,.slice va vn vc] ZK ES15.o rfl rfl (by unfold maxLen;omega) ZO HK15.o.qs ?_;intro g16 c16 W16_ hr16 hg16;have HK16:=Zh (show DrK B bt z q m p w W16_ (.slice ka kn kc) (.slice va vn vc) k s5 (.slice da ds.length dc) (.slice ta ts.length tc) (.slice ba bs.length bc) (.slice g13 (ds.length+1) c13) (.slice ta ts.length tc) (.slice g16 (bs.length+1) c16) (ds++[k]) ts (bs++[s5]) from HK15.o.pushB HE.o.width HPN.o ho16 hx16 hr16 hg16);clear ho16 hx16 hr16 hg16;clear hS0;refine Zi HK16.o.cells fun hS0=>?_
        refine Zo 15 ?_;refine Qla 15 (some 59) 27 #[.pointer (some ⟨bt,0,none⟩),iv m] rfl ZK ZK rfl ?_;refine(QWh m ZO _ HK16.o.tape).mono ?_;rintro e W17_ ⟨t,gu,ku,cu,rfl,hot,hta,htt,htb⟩;obtain⟨ga,gn,gc,rfl⟩:=hta.gen.shape;obtain⟨ua,un,uc,rfl⟩:=hta.kill.shape;obtain⟨wa,wn_,wc_,rfl⟩:∃a n c,cu=.slice a n c:=by obtain⟨a,c,h,-⟩:=hta.cops.cell;exact⟨_,_,_,h⟩
        rw[show trV t (.slice ga gn gc) (.slice ua un uc) (.slice wa wn_ wc_)=.agg #[iv m,.slice ga gn gc,iv m,.slice ua un uc,.slice wa wn_ wc_] by show Value.agg #[iv t.gen.width,_,iv t.kill.width,_,_]=_;rw[hot.gen.width,hot.kill.width]];have HOT:=Zh hot;have HTA:=Zh hta;have HK17:=Zh (show DrK B bt z q m p w W17_ (.slice ka kn kc) (.slice va vn vc) k s5 (.slice da ds.length dc) (.slice ta ts.length tc) (.slice ba bs.length bc) (.slice g13 (ds.length+1) c13) (.slice ta ts.length tc) (.slice g16 (bs.length+1) c16) (ds++[k]) ts (bs++[s5]) from HK16.o.next htt htb);clear hot hta htt htb;clear hS0;refine⟨_,rfl,Zi HK17.o.cells fun hS0=>?_⟩;refine Zo 16 ?_;obtain⟨W18_,hW18⟩:=Ze (W17_.alloc (.cells #[iv m,.slice ga gn gc,iv m,.slice ua un uc,.slice wa wn_ wc_] FNA));refine Qs 16 (some 60) (.slice (some ⟨W17_.heap.size,0,none⟩) 1 1) W18_ rfl ZK ?rva18 rfl ?_
        case rva18=>rw[←hW18];go_simp
        have HK18:=Zh (show DrK B bt z q m p w W18_ _ _ _ _ _ _ _ _ _ _ _ _ _ by rw[←hW18];exact HK17.o.alloc _);have EF18:=Zh (show Qg W18_ FNA 5 (.slice (some ⟨W17_.heap.size,0,none⟩) 1 1) [iv m,.slice ga gn gc,iv m,.slice ua un uc,.slice wa wn_ wc_] by rw[←hW18];exact Qg.new [iv m,.slice ga gn gc,iv m,.slice ua un uc,.slice wa wn_ wc_] 1 rfl ZD);have HTB:=Zh (show Qja W18_ (.slice ga gn gc) (.slice ua un uc) (.slice wa wn_ wc_) t by rw[←hW18];exact HTA.o.keep Qf.alloc Qf.alloc);clear hW18;clear hS0;refine Zi HK18.o.cells fun hS0=>?_
        refine Zo 17 ?_;obtain⟨xs19,ho19,hx19⟩:=HK18.o.tr;refine QAb 17 (some 61) rfl ZK rfl _ _ 33 rfl (q+1) FNA _ 5 88 Tryz.underlying33 QFi rfl ZD (.slice ta ts.length tc) ts.length xs19.flatten ho19 ZK (.slice (some ⟨W17_.heap.size,0,none⟩) 1 1) 1 [iv m,.slice ga gn gc,iv m,.slice ua un uc,.slice wa wn_ wc_] ZK EF18.o rfl rfl (by unfold maxLen;omega) ZO HK18.o.qs ?_;intro g19 c19 W19_ hr19 hg19;have HK19:=Zh (show DrK B bt z q m p w W19_ (.slice ka kn kc) (.slice va vn vc) k s5 (.slice da ds.length dc) (.slice ta ts.length tc) (.slice ba bs.length bc) (.slice g13 (ds.length+1) c13) (.slice g19 (ts.length+1) c19) (.slice g16 (bs.length+1) c16) (ds++[k]) (ts++[t]) (bs++[s5]) from HK18.o.pushT (t:=t) HTB.o ho19 hx19 (by rw[HOT.o.gen.width,HOT.o.kill.width];exact hr19) hg19);clear ho19 hx19 hr19 hg19;clear hS0;refine Zi HK19.o.cells fun hS0=>?_
        refine Zo 19 ?_;have HF:=Zh HK19.o.fin;have f1:=(Qa HK19.o.cur).2 1;have f2:=(Qa HK19.o.cur).2 2;have f3:=(Qa HK19.o.cur).2 3;obtain⟨d0,d1,d2,d3⟩:=QO HK19.o.cur;clear hS0;refine QQ 19 none (W19_.setCell ⟨q,1,none⟩ (.slice g13 (ds.length+1) c13)) rfl ZK ?rs20 rfl ?_
        case rs20=>go_simp
        refine⟨fun h=>absurd h ZD,?_⟩;refine Zo 20 ?_;refine Qs 20 (some 63) (.pointer (some ⟨q,3,none⟩)) (W19_.setCell ⟨q,1,none⟩ (.slice g13 (ds.length+1) c13)) rfl ZK ?rp21 rfl ?_
        case rp21=>go_simp
        refine⟨fun h=>absurd h ZD,?_⟩;refine Zo 21 ?_;refine QQ 21 none ((W19_.setCell ⟨q,1,none⟩ (.slice g13 (ds.length+1) c13)).setCell ⟨q,3,none⟩ (.slice g16 (bs.length+1) c16)) rfl ZK ?rs22 rfl ?_
        case rs22=>go_simp
        refine⟨fun h=>absurd h ZD,?_⟩;refine Zo 22 ?_;refine Qs 22 (some 64) (.pointer (some ⟨q,2,none⟩)) ((W19_.setCell ⟨q,1,none⟩ (.slice g13 (ds.length+1) c13)).setCell ⟨q,3,none⟩ (.slice g16 (bs.length+1) c16)) rfl ZK ?rp23 rfl ?_
        case rp23=>go_simp
        refine⟨fun h=>absurd h ZD,?_⟩;refine Zo 23 ?_;refine QQ 23 none (((W19_.setCell ⟨q,1,none⟩ (.slice g13 (ds.length+1) c13)).setCell ⟨q,3,none⟩ (.slice g16 (bs.length+1) c16)).setCell ⟨q,2,none⟩ (.slice g19 (ts.length+1) c19)) rfl ZK ?rs24 rfl ?_
        case rs24=>go_simp
        refine⟨fun h=>absurd h ZD,?_⟩;have hS0:=trivial;refine Qwa ZK ?_ _;generalize hA:Act.put _ _ _=A0;simp only[Qba,Qaa,Zu,Zv,Zw] at hA;subst hA;clear hS0;go_wp2;go_roundw
        case rel=>exact⟨i+1,_,_,_,_,_,_,by omega,by go_num,HF.o,HSM.o.push HAK.o.1 HAK.o.2 HOT.o HE.o,⟨by rw[List.length_append,HL.o.1];rfl,by rw[List.length_append,HL.o.2.1];rfl,by rw[List.length_append,HL.o.2.2];rfl⟩⟩
        case measure=>simp[intOf];omega
       ·obtain⟨W25_,hW25⟩:=Ze (W12_.alloc (.cells #[iv m,.slice va vn vc] ST));refine Qs 8 (some 52) (.slice (some ⟨W12_.heap.size,0,none⟩) 1 1) W25_ rfl ZK ?rva25 rfl ?_
        case rva25=>rw[←hW25];go_simp
        have HK25:=Zh (show DrK B bt z q m p w W25_ _ _ _ _ _ _ _ _ _ _ _ _ _ by rw[←hW25];exact HK12.o.alloc _);have EI25:=Zh (show Qg W25_ IT 1 (.slice (some ⟨W0_.heap.size,0,none⟩) 1 1) [.slice ka kn kc] by rw[←hW25];exact Qg.same EI12.o Qf.alloc);have ES25:=Zh (show Qg W25_ ST 2 (.slice (some ⟨W12_.heap.size,0,none⟩) 1 1) [iv m,.slice va vn vc] by rw[←hW25];exact Qg.new [iv m,.slice va vn vc] 1 rfl ZD);clear hW25;clear hS0;refine Zi HK25.o.cells fun hS0=>?_
        refine Zo 4 ?_;obtain⟨xs26,ho26,hx26⟩:=HK25.o.dp;refine QAb 4 (some 48) rfl ZK rfl _ _ 32 rfl (q+1) IT _ 1 24 Tryz.underlying32 Qzg rfl ZD (.slice da ds.length dc) ds.length xs26.flatten ho26 ZK (.slice (some ⟨W0_.heap.size,0,none⟩) 1 1) 1 [.slice ka kn kc] ZK EI25.o rfl rfl (by unfold maxLen;omega) ZO HK25.o.qs ?_;intro g26 c26 W26_ hr26 hg26;have HK26:=Zh (show DrK B bt z q m p w W26_ (.slice ka kn kc) (.slice va vn vc) k s5 (.slice da ds.length dc) (.slice ta ts.length tc) (.slice ba bs.length bc) (.slice g26 (ds.length+1) c26) (.slice ta ts.length tc) (.slice ba bs.length bc) (ds++[k]) ts bs from HK25.o.pushD ho26 hx26 hr26 hg26);have ES26:=Zh (show Qg W26_ ST 2 (.slice (some ⟨W12_.heap.size,0,none⟩) 1 1) [iv m,.slice va vn vc] from Qg.same ES25.o (Qf.grown hg26 ho26 (show ST≠IT by decide) hbq));clear ho26 hx26 hr26 hg26;clear hS0;refine Zi HK26.o.cells fun hS0=>?_
        refine Yl 18 62 [] ?_;refine Zo 9 ?_;obtain⟨xs28,ho28,hx28⟩:=HK26.o.bd;refine QAb 9 (some 53) rfl ZK rfl _ _ 34 rfl (q+1) ST _ 2 32 Tryz.underlying34 Qwd rfl ZD (.slice ba bs.length bc) bs.length xs28.flatten ho28 ZK (.slice (some ⟨W12_.heap.size,0,none⟩) 1 1) 1 [iv m,.slice va vn vc] ZK ES26.o rfl rfl (by unfold maxLen;omega) ZO HK26.o.qs ?_;intro g28 c28 W28_ hr28 hg28;have HK28:=Zh (show DrK B bt z q m p w W28_ (.slice ka kn kc) (.slice va vn vc) k s5 (.slice da ds.length dc) (.slice ta ts.length tc) (.slice ba bs.length bc) (.slice g26 (ds.length+1) c26) (.slice ta ts.length tc) (.slice g28 (bs.length+1) c28) (ds++[k]) ts (bs++[s5]) from HK26.o.pushB HE.o.width HPN.o ho28 hx28 hr28 hg28);clear ho28 hx28 hr28 hg28;clear hS0;refine Zi HK28.o.cells fun hS0=>?_
        refine Zo 15 ?_;refine Qla 15 (some 59) 27 #[.pointer (some ⟨bt,0,none⟩),iv m] rfl ZK ZK rfl ?_;refine(QWh m ZO _ HK28.o.tape).mono ?_;rintro e W29_ ⟨t,gu,ku,cu,rfl,hot,hta,htt,htb⟩;obtain⟨ga,gn,gc,rfl⟩:=hta.gen.shape;obtain⟨ua,un,uc,rfl⟩:=hta.kill.shape;obtain⟨wa,wn_,wc_,rfl⟩:∃a n c,cu=.slice a n c:=by obtain⟨a,c,h,-⟩:=hta.cops.cell;exact⟨_,_,_,h⟩
        rw[show trV t (.slice ga gn gc) (.slice ua un uc) (.slice wa wn_ wc_)=.agg #[iv m,.slice ga gn gc,iv m,.slice ua un uc,.slice wa wn_ wc_] by show Value.agg #[iv t.gen.width,_,iv t.kill.width,_,_]=_;rw[hot.gen.width,hot.kill.width]];have HOT:=Zh hot;have HTA:=Zh hta;have HK29:=Zh (show DrK B bt z q m p w W29_ (.slice ka kn kc) (.slice va vn vc) k s5 (.slice da ds.length dc) (.slice ta ts.length tc) (.slice ba bs.length bc) (.slice g26 (ds.length+1) c26) (.slice ta ts.length tc) (.slice g28 (bs.length+1) c28) (ds++[k]) ts (bs++[s5]) from HK28.o.next htt htb);clear hot hta htt htb;clear hS0;refine⟨_,rfl,Zi HK29.o.cells fun hS0=>?_⟩;refine Zo 16 ?_;obtain⟨W30_,hW30⟩:=Ze (W29_.alloc (.cells #[iv m,.slice ga gn gc,iv m,.slice ua un uc,.slice wa wn_ wc_] FNA));refine Qs 16 (some 60) (.slice (some ⟨W29_.heap.size,0,none⟩) 1 1) W30_ rfl ZK ?rva30 rfl ?_
        case rva30=>rw[←hW30];go_simp
        have HK30:=Zh (show DrK B bt z q m p w W30_ _ _ _ _ _ _ _ _ _ _ _ _ _ by rw[←hW30];exact HK29.o.alloc _);have EF30:=Zh (show Qg W30_ FNA 5 (.slice (some ⟨W29_.heap.size,0,none⟩) 1 1) [iv m,.slice ga gn gc,iv m,.slice ua un uc,.slice wa wn_ wc_] by rw[←hW30];exact Qg.new [iv m,.slice ga gn gc,iv m,.slice ua un uc,.slice wa wn_ wc_] 1 rfl ZD);have HTB:=Zh (show Qja W30_ (.slice ga gn gc) (.slice ua un uc) (.slice wa wn_ wc_) t by rw[←hW30];exact HTA.o.keep Qf.alloc Qf.alloc);clear hW30;clear hS0;refine Zi HK30.o.cells fun hS0=>?_
        refine Zo 17 ?_;obtain⟨xs31,ho31,hx31⟩:=HK30.o.tr;refine QAb 17 (some 61) rfl ZK rfl _ _ 33 rfl (q+1) FNA _ 5 88 Tryz.underlying33 QFi rfl ZD (.slice ta ts.length tc) ts.length xs31.flatten ho31 ZK (.slice (some ⟨W29_.heap.size,0,none⟩) 1 1) 1 [iv m,.slice ga gn gc,iv m,.slice ua un uc,.slice wa wn_ wc_] ZK EF30.o rfl rfl (by unfold maxLen;omega) ZO HK30.o.qs ?_;intro g31 c31 W31_ hr31 hg31;have HK31:=Zh (show DrK B bt z q m p w W31_ (.slice ka kn kc) (.slice va vn vc) k s5 (.slice da ds.length dc) (.slice ta ts.length tc) (.slice ba bs.length bc) (.slice g26 (ds.length+1) c26) (.slice g31 (ts.length+1) c31) (.slice g28 (bs.length+1) c28) (ds++[k]) (ts++[t]) (bs++[s5]) from HK30.o.pushT (t:=t) HTB.o ho31 hx31 (by rw[HOT.o.gen.width,HOT.o.kill.width];exact hr31) hg31);clear ho31 hx31 hr31 hg31;clear hS0;refine Zi HK31.o.cells fun hS0=>?_
        refine Zo 19 ?_;have HF:=Zh HK31.o.fin;have f1:=(Qa HK31.o.cur).2 1;have f2:=(Qa HK31.o.cur).2 2;have f3:=(Qa HK31.o.cur).2 3;obtain⟨d0,d1,d2,d3⟩:=QO HK31.o.cur;clear hS0;refine QQ 19 none (W31_.setCell ⟨q,1,none⟩ (.slice g26 (ds.length+1) c26)) rfl ZK ?rs32 rfl ?_
        case rs32=>go_simp
        refine⟨fun h=>absurd h ZD,?_⟩;refine Zo 20 ?_;refine Qs 20 (some 63) (.pointer (some ⟨q,3,none⟩)) (W31_.setCell ⟨q,1,none⟩ (.slice g26 (ds.length+1) c26)) rfl ZK ?rp33 rfl ?_
        case rp33=>go_simp
        refine⟨fun h=>absurd h ZD,?_⟩;refine Zo 21 ?_;refine QQ 21 none ((W31_.setCell ⟨q,1,none⟩ (.slice g26 (ds.length+1) c26)).setCell ⟨q,3,none⟩ (.slice g28 (bs.length+1) c28)) rfl ZK ?rs34 rfl ?_
        case rs34=>go_simp
        refine⟨fun h=>absurd h ZD,?_⟩;refine Zo 22 ?_;refine Qs 22 (some 64) (.pointer (some ⟨q,2,none⟩)) ((W31_.setCell ⟨q,1,none⟩ (.slice g26 (ds.length+1) c26)).setCell ⟨q,3,none⟩ (.slice g28 (bs.length+1) c28)) rfl ZK ?rp35 rfl ?_
        case rp35=>go_simp
        refine⟨fun h=>absurd h ZD,?_⟩;refine Zo 23 ?_;refine QQ 23 none (((W31_.setCell ⟨q,1,none⟩ (.slice g26 (ds.length+1) c26)).setCell ⟨q,3,none⟩ (.slice g28 (bs.length+1) c28)).setCell ⟨q,2,none⟩ (.slice g31 (ts.length+1) c31)) rfl ZK ?rs36 rfl ?_
        case rs36=>go_simp
        refine⟨fun h=>absurd h ZD,?_⟩;have hS0:=trivial;refine Qwa ZK ?_ _;generalize hA:Act.put _ _ _=A0;simp only[Qba,Qaa,Zu,Zv,Zw] at hA;subst hA;clear hS0;go_wp2;go_roundw
        case rel=>exact⟨i+1,_,_,_,_,_,_,by omega,by go_num,HF.o,HSM.o.push HAK.o.1 HAK.o.2 HOT.o HE.o,⟨by rw[List.length_append,HL.o.1];rfl,by rw[List.length_append,HL.o.2.1];rfl,by rw[List.length_append,HL.o.2.2];rfl⟩⟩
        case measure=>simp[intOf];omega
      ·obtain⟨W37_,hW37⟩:=Ze (W0_.alloc (.cells #[iv m,.slice va vn vc] ST));refine Qs 8 (some 52) (.slice (some ⟨W0_.heap.size,0,none⟩) 1 1) W37_ rfl ZK ?rva37 rfl ?_
       case rva37=>rw[←hW37];go_simp
       have HK37:=Zh (show DrK B bt z q m p w W37_ _ _ _ _ _ _ _ _ _ _ _ _ _ by rw[←hW37];exact HK0.o.alloc _);have ES37:=Zh (show Qg W37_ ST 2 (.slice (some ⟨W0_.heap.size,0,none⟩) 1 1) [iv m,.slice va vn vc] by rw[←hW37];exact Qg.new [iv m,.slice va vn vc] 1 rfl ZD);clear hW37;clear hS0;refine Zi HK37.o.cells fun hS0=>?_
       refine Zo 3 ?_;obtain⟨W38_,hW38⟩:=Ze (W37_.alloc (.cells #[.slice ka kn kc] IT));refine Qs 3 (some 47) (.slice (some ⟨W37_.heap.size,0,none⟩) 1 1) W38_ rfl ZK ?rva38 rfl ?_
       case rva38=>rw[←hW38];go_simp
       have HK38:=Zh (show DrK B bt z q m p w W38_ _ _ _ _ _ _ _ _ _ _ _ _ _ by rw[←hW38];exact HK37.o.alloc _);have ES38:=Zh (show Qg W38_ ST 2 (.slice (some ⟨W0_.heap.size,0,none⟩) 1 1) [iv m,.slice va vn vc] by rw[←hW38];exact Qg.same ES37.o Qf.alloc);have EI38:=Zh (show Qg W38_ IT 1 (.slice (some ⟨W37_.heap.size,0,none⟩) 1 1) [.slice ka kn kc] by rw[←hW38];exact Qg.new [.slice ka kn kc] 1 rfl ZD);clear hW38;clear hS0;refine Zi HK38.o.cells fun hS0=>?_
       refine Zo 4 ?_;obtain⟨xs39,ho39,hx39⟩:=HK38.o.dp;refine QAb 4 (some 48) rfl ZK rfl _ _ 32 rfl (q+1) IT _ 1 24 Tryz.underlying32 Qzg rfl ZD (.slice da ds.length dc) ds.length xs39.flatten ho39 ZK (.slice (some ⟨W37_.heap.size,0,none⟩) 1 1) 1 [.slice ka kn kc] ZK EI38.o rfl rfl (by unfold maxLen;omega) ZO HK38.o.qs ?_;intro g39 c39 W39_ hr39 hg39;have HK39:=Zh (show DrK B bt z q m p w W39_ (.slice ka kn kc) (.slice va vn vc) k s5 (.slice da ds.length dc) (.slice ta ts.length tc) (.slice ba bs.length bc) (.slice g39 (ds.length+1) c39) (.slice ta ts.length tc) (.slice ba bs.length bc) (ds++[k]) ts bs from HK38.o.pushD ho39 hx39 hr39 hg39);have ES39:=Zh (show Qg W39_ ST 2 (.slice (some ⟨W0_.heap.size,0,none⟩) 1 1) [iv m,.slice va vn vc] from Qg.same ES38.o (Qf.grown hg39 ho39 (show ST≠IT by decide) hbq));clear ho39 hx39 hr39 hg39;clear hS0;refine Zi HK39.o.cells fun hS0=>?_
       refine Yl 18 62 [] ?_;refine Zo 9 ?_;obtain⟨xs41,ho41,hx41⟩:=HK39.o.bd;refine QAb 9 (some 53) rfl ZK rfl _ _ 34 rfl (q+1) ST _ 2 32 Tryz.underlying34 Qwd rfl ZD (.slice ba bs.length bc) bs.length xs41.flatten ho41 ZK (.slice (some ⟨W0_.heap.size,0,none⟩) 1 1) 1 [iv m,.slice va vn vc] ZK ES39.o rfl rfl (by unfold maxLen;omega) ZO HK39.o.qs ?_;intro g41 c41 W41_ hr41 hg41;have HK41:=Zh (show DrK B bt z q m p w W41_ (.slice ka kn kc) (.slice va vn vc) k s5 (.slice da ds.length dc) (.slice ta ts.length tc) (.slice ba bs.length bc) (.slice g39 (ds.length+1) c39) (.slice ta ts.length tc) (.slice g41 (bs.length+1) c41) (ds++[k]) ts (bs++[s5]) from HK39.o.pushB HE.o.width HPN.o ho41 hx41 hr41 hg41);clear ho41 hx41 hr41 hg41;clear hS0;refine Zi HK41.o.cells fun hS0=>?_
       refine Zo 15 ?_;refine Qla 15 (some 59) 27 #[.pointer (some ⟨bt,0,none⟩),iv m] rfl ZK ZK rfl ?_;refine(QWh m ZO _ HK41.o.tape).mono ?_;rintro e W42_ ⟨t,gu,ku,cu,rfl,hot,hta,htt,htb⟩;obtain⟨ga,gn,gc,rfl⟩:=hta.gen.shape;obtain⟨ua,un,uc,rfl⟩:=hta.kill.shape;obtain⟨wa,wn_,wc_,rfl⟩:∃a n c,cu=.slice a n c:=by obtain⟨a,c,h,-⟩:=hta.cops.cell;exact⟨_,_,_,h⟩
       rw[show trV t (.slice ga gn gc) (.slice ua un uc) (.slice wa wn_ wc_)=.agg #[iv m,.slice ga gn gc,iv m,.slice ua un uc,.slice wa wn_ wc_] by show Value.agg #[iv t.gen.width,_,iv t.kill.width,_,_]=_;rw[hot.gen.width,hot.kill.width]];have HOT:=Zh hot;have HTA:=Zh hta;have HK42:=Zh (show DrK B bt z q m p w W42_ (.slice ka kn kc) (.slice va vn vc) k s5 (.slice da ds.length dc) (.slice ta ts.length tc) (.slice ba bs.length bc) (.slice g39 (ds.length+1) c39) (.slice ta ts.length tc) (.slice g41 (bs.length+1) c41) (ds++[k]) ts (bs++[s5]) from HK41.o.next htt htb);clear hot hta htt htb;clear hS0;refine⟨_,rfl,Zi HK42.o.cells fun hS0=>?_⟩;refine Zo 16 ?_;obtain⟨W43_,hW43⟩:=Ze (W42_.alloc (.cells #[iv m,.slice ga gn gc,iv m,.slice ua un uc,.slice wa wn_ wc_] FNA));refine Qs 16 (some 60) (.slice (some ⟨W42_.heap.size,0,none⟩) 1 1) W43_ rfl ZK ?rva43 rfl ?_
       case rva43=>rw[←hW43];go_simp
       have HK43:=Zh (show DrK B bt z q m p w W43_ _ _ _ _ _ _ _ _ _ _ _ _ _ by rw[←hW43];exact HK42.o.alloc _);have EF43:=Zh (show Qg W43_ FNA 5 (.slice (some ⟨W42_.heap.size,0,none⟩) 1 1) [iv m,.slice ga gn gc,iv m,.slice ua un uc,.slice wa wn_ wc_] by rw[←hW43];exact Qg.new [iv m,.slice ga gn gc,iv m,.slice ua un uc,.slice wa wn_ wc_] 1 rfl ZD);have HTB:=Zh (show Qja W43_ (.slice ga gn gc) (.slice ua un uc) (.slice wa wn_ wc_) t by rw[←hW43];exact HTA.o.keep Qf.alloc Qf.alloc);clear hW43;clear hS0;refine Zi HK43.o.cells fun hS0=>?_
       refine Zo 17 ?_;obtain⟨xs44,ho44,hx44⟩:=HK43.o.tr;refine QAb 17 (some 61) rfl ZK rfl _ _ 33 rfl (q+1) FNA _ 5 88 Tryz.underlying33 QFi rfl ZD (.slice ta ts.length tc) ts.length xs44.flatten ho44 ZK (.slice (some ⟨W42_.heap.size,0,none⟩) 1 1) 1 [iv m,.slice ga gn gc,iv m,.slice ua un uc,.slice wa wn_ wc_] ZK EF43.o rfl rfl (by unfold maxLen;omega) ZO HK43.o.qs ?_;intro g44 c44 W44_ hr44 hg44;have HK44:=Zh (show DrK B bt z q m p w W44_ (.slice ka kn kc) (.slice va vn vc) k s5 (.slice da ds.length dc) (.slice ta ts.length tc) (.slice ba bs.length bc) (.slice g39 (ds.length+1) c39) (.slice g44 (ts.length+1) c44) (.slice g41 (bs.length+1) c41) (ds++[k]) (ts++[t]) (bs++[s5]) from HK43.o.pushT (t:=t) HTB.o ho44 hx44 (by rw[HOT.o.gen.width,HOT.o.kill.width];exact hr44) hg44);clear ho44 hx44 hr44 hg44;clear hS0;refine Zi HK44.o.cells fun hS0=>?_
       refine Zo 19 ?_;have HF:=Zh HK44.o.fin;have f1:=(Qa HK44.o.cur).2 1;have f2:=(Qa HK44.o.cur).2 2;have f3:=(Qa HK44.o.cur).2 3;obtain⟨d0,d1,d2,d3⟩:=QO HK44.o.cur;clear hS0;refine QQ 19 none (W44_.setCell ⟨q,1,none⟩ (.slice g39 (ds.length+1) c39)) rfl ZK ?rs45 rfl ?_
       case rs45=>go_simp
       refine⟨fun h=>absurd h ZD,?_⟩;refine Zo 20 ?_;refine Qs 20 (some 63) (.pointer (some ⟨q,3,none⟩)) (W44_.setCell ⟨q,1,none⟩ (.slice g39 (ds.length+1) c39)) rfl ZK ?rp46 rfl ?_
       case rp46=>go_simp
       refine⟨fun h=>absurd h ZD,?_⟩;refine Zo 21 ?_;refine QQ 21 none ((W44_.setCell ⟨q,1,none⟩ (.slice g39 (ds.length+1) c39)).setCell ⟨q,3,none⟩ (.slice g41 (bs.length+1) c41)) rfl ZK ?rs47 rfl ?_
       case rs47=>go_simp
       refine⟨fun h=>absurd h ZD,?_⟩;refine Zo 22 ?_;refine Qs 22 (some 64) (.pointer (some ⟨q,2,none⟩)) ((W44_.setCell ⟨q,1,none⟩ (.slice g39 (ds.length+1) c39)).setCell ⟨q,3,none⟩ (.slice g41 (bs.length+1) c41)) rfl ZK ?rp48 rfl ?_
       case rp48=>go_simp
       refine⟨fun h=>absurd h ZD,?_⟩;refine Zo 23 ?_;refine QQ 23 none (((W44_.setCell ⟨q,1,none⟩ (.slice g39 (ds.length+1) c39)).setCell ⟨q,3,none⟩ (.slice g41 (bs.length+1) c41)).setCell ⟨q,2,none⟩ (.slice g44 (ts.length+1) c44)) rfl ZK ?rs49 rfl ?_
       case rs49=>go_simp
       refine⟨fun h=>absurd h ZD,?_⟩;have hS0:=trivial;refine Qwa ZK ?_ _;generalize hA:Act.put _ _ _=A0;simp only[Qba,Qaa,Zu,Zv,Zw] at hA;subst hA;clear hS0;go_wp2;go_roundw
       case rel=>exact⟨i+1,_,_,_,_,_,_,by omega,by go_num,HF.o,HSM.o.push HAK.o.1 HAK.o.2 HOT.o HE.o,⟨by rw[List.length_append,HL.o.1];rfl,by rw[List.length_append,HL.o.2.1];rfl,by rw[List.length_append,HL.o.2.2];rfl⟩⟩
       case measure=>simp[intOf];omega
    ·have t1:decide ((0:Int)<(d:Int))=true:=decide_eq_true ZO;have HWD:=Zh (show wrap64 ((d:Int)-1)=((d-1:Nat):Int) from(IntWalk.wrap64_in _ (by have:=HD.o.len;omega)).trans ZO);go_wp2_with (first
     |(go_at_call 16;refine(QMc HJ.o.tape n ZO).mono ?_;rintro e w3 ⟨x,x1,x2,rfl,ht3,hb3⟩;have J3:=Zh (HJ.o.next ht3 hb3);have K3:=Zh (HK.o.but HJ.o.tape hb3);have D3:=Zh (HD.o.ins hdp x1 (by omega:x<n));clear ht3 hb3)
     |(go_at_call 65;refine(Qyo k x _ _ K3.o HD.o.asc (by have:=HD.o.len;omega) (by have:=J3.o.zb;have:=Qb J3.o.res;omega)).mono ?_;rintro e w4 ⟨y4,rfl,K4,b4⟩;have J4:=Zh (J3.o.next (J3.o.tape.below b4) ((But.refl _ _).below b4));have K4:=Zh K4;clear b4 J3 K3))
     go_roundw
     case rel=>exact⟨d-1,_,congrArg (Value.int .i64) HWD.o,J4.o,K4.o,D3.o⟩
     case measure=>simp only[intOf];rw[HWD.o];omega
end
end Go.Proofs.YtijekimobahgpaaGreatDoor
