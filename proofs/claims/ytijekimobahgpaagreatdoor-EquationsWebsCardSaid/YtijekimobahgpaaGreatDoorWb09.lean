/- A part of the proof. -/
import Derived.Test.YtijekimobahgpaaGreatDoorWb08
set_option linter.unusedVariables false
set_option linter.unusedSimpArgs false
set_option linter.unusedSectionVars false
set_option maxRecDepth 100000
set_option maxHeartbeats 16000000
namespace Go.Proofs.YtijekimobahgpaaGreatDoor
section
open Go.RowKit
variable [Base]
abbrev FNT:TypeId:=55
structure TzIn (B:Nat)(w:World):Prop where
 g:1<B
 bs:Base.b≤B
 tz:TabAt 1 Lib.deBruijn64tab w
theorem TzIn.below {B:Nat}{w w':World}(h:TzIn B w)(hb:Below B w w'):TzIn B w':=⟨h.g,h.bs,fun j hj=>(hb.cell (p:=⟨1,j,none⟩) h.g).trans (h.tz j hj)⟩
structure Cls (z p m:Nat)(t:Qw)(xv:Array Value)(w0 w:World)(gu ku cu:Value)(K:QSet)(C:List Cp):Prop where
 zs:w0.heap.size=z
 below:Below z w0 w
 bs:Base.b≤z
 zp:z+2≤p
 xb:w.heap[z]? = some (.cells xv RT (0,0))
 rb:w.heap[z+1]? = some (.cells #[iv 0,.slice none 0 0,iv 0,.slice none 0 0,.slice none 0 0] FNT (0,0))
 tb:w.heap[p]? = some (.cells #[iv m,gu,iv m,ku,cu] FNT (0,0))
 gen:Qi w gu t.gen.words
 kill:Qi w ku K.words
 kw:K.width=(m:Int)
 cops:Qya z w cu C
section
variable {z p m:Nat} {t:Qw} {xv:Array Value} {w0 w w':World} {gu ku cu:Value} {K:QSet} {C:List Cp}
theorem Cls.next (h:Cls z p m t xv w0 w gu ku cu K C)(b:Below w.heap.size w w'):Cls z p m t xv w0 w' gu ku cu K C:=
 ⟨h.zs,h.below.trans (b.mono (by have:=h.below.size;have:=h.zs;omega)),h.bs,h.zp,Qc h.xb b (Qb h.xb),Qc h.rb b (Qb h.rb),Qc h.tb b (Qb h.tb),h.gen.below b,h.kill.below b,h.kw,h.cops.below b⟩
theorem Cls.zw (h:Cls z p m t xv w0 w gu ku cu K C):z≤w.heap.size:=by have:=h.below.size;have:=h.zs;omega
theorem Cls.turn (h:Cls z p m t xv w0 w gu ku cu K C){K2:QSet}{u:Value}(hu:Qi w u K2.words)(hk:K2.width=(m:Int)):
  Cls z p m t xv w0 ((w.setCell ⟨p,2,none⟩ (iv m)).setCell ⟨p,3,none⟩ u) gu u cu K2 C:=by
 have hz:=h.zp;have hb:=h.bs;have hT:tyAt w p=some FNT:=Qv h.tb ZO;have hT2:tyAt (w.setCell ⟨p,2,none⟩ (iv m)) p=some FNT:=by rw[QS];exact hT
 have hs:∀T,T≠FNT→Qf T w ((w.setCell ⟨p,2,none⟩ (iv m)).setCell ⟨p,3,none⟩ u):=fun T hne=>(Qf.setCell hT hne).trans (Qf.setCell hT2 hne)
 have keep:∀k o,w.heap[k]? = some o→k≠p→((w.setCell ⟨p,2,none⟩ (iv m)).setCell ⟨p,3,none⟩ u).heap[k]? = some o:=fun k o hk hne=>by
  rw[Below.heap_setCell _ _ _ _ hne,Below.heap_setCell _ _ _ _ hne];exact hk
 refine⟨h.zs,(h.below.setCell (by show z≤p;omega) _).setCell (by show z≤p;omega) _,h.bs,h.zp,keep _ _ h.xb ZO,keep _ _ h.rb ZO,?_,h.gen.keep (hs _ ZD),hu.keep (hs _ ZD),hk,?_⟩
 ·simp[World.setCell,Array.getElem?_modify,h.tb]
 ·exact Qza (Qza h.cops hT ZD) hT2 ZD
theorem Cls.off (h:Cls z p m t xv w0 w gu ku cu K C){b:Nat}(hb:p<b)(hT:tyAt w b=some ST)(o:Nat)(x:Value):Cls z p m t xv w0 (w.setCell ⟨b,o,none⟩ x) gu ku cu K C:=by
 have hz:=h.zp;have keep:∀k ob,w.heap[k]? = some ob→k≠b→(w.setCell ⟨b,o,none⟩ x).heap[k]? = some ob:=fun k ob hk hne=>by
  rw[Below.heap_setCell _ _ _ _ hne];exact hk
 have hs:Qf 139 w (w.setCell ⟨b,o,none⟩ x):=Qf.setCell (U:=ST) hT ZD;exact⟨h.zs,h.below.setCell (by show z≤b;omega) _,h.bs,h.zp,keep _ _ h.xb ZO,keep _ _ h.rb ZO,keep _ _ h.tb ZO,h.gen.keep hs,h.kill.keep hs,h.kw,Qza h.cops hT ZD⟩
theorem Cls.push (h:Cls z p m t xv w0 w gu ku cu K C){c:Cp}{g cap:Nat}(ho:w'.ownsRow z CT 2 (.slice (some ⟨g,0,none⟩) (C.length+1) cap) (C.length+1) (QHa C++copV c))(hg:w.grownBy w' cu.ownBlock):
  Cls z p m t xv w0 (w'.setCell ⟨p,4,none⟩ (.slice (some ⟨g,0,none⟩) (C.length+1) cap)) gu ku (.slice (some ⟨g,0,none⟩) (C.length+1) cap) K (C++[c])∧w'.heap[p]? = some (.cells #[iv m,gu,iv m,ku,cu] FNT (0,0)):=by
 have hz:=h.zp;have hb:=h.bs;have keep:∀k c U,w.heap[k]? = some (Obj.cells c U (0,0))→U≠CT→w'.heap[k]? = some (Obj.cells c U (0,0)):=fun k c U hk hU=>
  (hg.block k (Qb hk) (Qdb h.cops hk (fun c' fr e=>by injection e with _ e _;exact hU e))).trans hk
 have hxq:=keep _ _ _ h.xb ZD;have hrq:=keep _ _ _ h.rb ZD;have htq:=keep _ _ _ h.tb ZD;have hT:tyAt w' p=some FNT:=Qv htq ZO;have hs1:Qf 139 w w':=Qf.grown hg h.cops ZD;have hs2:Qf 139 w' (w'.setCell ⟨p,4,none⟩ (.slice (some ⟨g,0,none⟩) (C.length+1) cap)):=Qf.setCell (U:=FNT) hT ZD;refine⟨⟨h.zs,(h.below.trans (Below.of_grown hg h.cops h.zw)).setCell (by show z≤p;omega) _,h.bs,h.zp,?_,?_,?_,(h.gen.keep hs1).keep hs2,(h.kill.keep hs1).keep hs2,h.kw,?_⟩,htq⟩
 ·rw[Below.heap_setCell _ _ _ _ (by show z≠p;omega)];exact hxq
 ·rw[Below.heap_setCell _ _ _ _ (by show z+1≠p;omega)];exact hrq
 ·simp[World.setCell,Array.getElem?_modify,htq]
 ·exact Qya.push (Qza ho hT ZD)
theorem Cls.new (hz:w0.heap.size=z)(hbs:Base.b≤z)(hb:Below z w0 w)(hp:z+2≤p)(hx:w.heap[z]? = some (.cells xv RT (0,0)))(hr:w.heap[z+1]? = some (.cells #[iv 0,.slice none 0 0,iv 0,.slice none 0 0,.slice none 0 0] FNT (0,0)))(ht:w.heap[p]? = some (.cells #[iv 0,.slice none 0 0,iv 0,.slice none 0 0,.slice none 0 0] FNT (0,0)))(hg:Qi w gu t.gen.words)(hk:Qi w ku t.gen.words)(hw:t.gen.width=(m:Int)):
  Cls z p m t xv w0 (((((w.setCell ⟨p,0,none⟩ (iv m)).setCell ⟨p,1,none⟩ gu).setCell ⟨p,2,none⟩ (iv m)).setCell ⟨p,3,none⟩ ku).setCell ⟨p,4,none⟩ (.slice none 0 0)) gu ku (.slice none 0 0) t.gen []:=by
 have hs:=Quc (T:=139) (Qv ht ZO) ZD (iv m) gu (iv m) ku (.slice none 0 0);exact⟨hz,((((hb.setCell (show z≤p by omega) _).setCell (show z≤p by omega) _).setCell (show z≤p by omega) _).setCell (show z≤p by omega) _).setCell (show z≤p by omega) _,hbs,hp,Qdj hx ZO _ _ _ _ _,Qdj hr ZO _ _ _ _ _,set5 ht _ _ _ _ _,hg.keep hs,hk.keep hs,hw,Qya.nil⟩
end
theorem Qnr {B:Nat}(m:Nat)(t:Qw)(hok:OkT m t)(u ofv:Value)(w:World)(hu:Qi w u t.gen.words)(hr:Qoa Qsa w ofv (Qpi t m))(tz:TzIn B w)(hB:B≤w.heap.size):
  Calls Tryz.prog 74 #[.agg #[iv m,u,ofv]] w (QCl (Qlb t m,0) w):=by
 have hm:=hok.gen.le;have OK:=Zh hok;have HRW:=Zh hr;have TZ:=Zh tz;have hgw:=hok.gen.width;have hbs:Base.b≤w.heap.size:=by have:=tz.bs;omega
 have hgB:1<w.heap.size:=by have:=tz.g;omega
 have HU:=Zh hu;obtain⟨ga,gc,rfl,-⟩:=hu.cell;obtain⟨oa,oc,rfl,-,-,-,hoc⟩:=hr.cell;have HOC:=Zh hoc;have hol:(Qpi t m).length=m:=by simp[Qpi]
 rw[hol] at HRW ⊢;have HGL:=Zh (show t.gen.words.length≤1000000 by
  obtain⟨k,h1,h2,h3⟩:=Qka hok.gen.form;rw[h3];unfold Qj;omega)
 obtain⟨gn,hgn⟩:=Ze t.gen.words.length;rw[hgn] at HU ⊢;obtain⟨z,hz⟩:=Ze w.heap.size;obtain⟨W,hW⟩:=Ze ((w.alloc (.cells #[iv m,.slice ga gn gc,.slice oa m oc] RT)).alloc (.cells #[iv 0,.slice none 0 0,iv 0,.slice none 0 0,.slice none 0 0] FNT));have HWW:=Zh hW;have HZ:=Zh hz;have BW:=Zh (show Below z w W by rw[←hW,←hz];exact(Zb).alloc ZS _);have HX:=Zh (show W.heap[z]? = some (.cells #[iv m,.slice ga gn gc,.slice oa m oc] RT (0,0)) by rw[←hW,←hz,Below.heap_alloc _ _ _ ZS];exact heap_alloc_new _ _);have HR:=Zh (show W.heap[z+1]? = some (.cells #[iv 0,.slice none 0 0,iv 0,.slice none 0 0,.slice none 0 0] FNT (0,0)) by rw[←hW,←hz];exact Qda _ _);have HSZ:=Zh (show W.heap.size=z+2 by rw[←hW,←hz];simp);have HUW:=Zh (HU.o.below (HZ.o▸BW.o):Qi W (.slice ga gn gc) t.gen.words);have KC:=Zh (show ∀x,Below W.heap.size W x→Calls Tryz.prog 106 #[.agg #[iv m,.slice ga gn gc]] x (SetV t.gen x) from fun x b=>by
  have h1:=Qog t.gen (.slice ga gn gc) x (HUW.o.below b) HGL.o (by have:=b.size;have:=HSZ.o;have:=HZ.o;omega);rw[show setV t.gen (.slice ga gn gc)=.agg #[iv m,.slice ga gn gc] by rw[←hgw]] at h1;exact h1)
 have HSS:=Zh (show ∀w',Below W.heap.size W w'→(w'.cell? ⟨z,0,none⟩=some (iv m)∧w'.cell? ⟨z,1,none⟩=some (.slice ga gn gc)) from fun w' hb=>by
  obtain⟨a0,a1,-⟩:=QVa (Qc HX.o hb (Qb HX.o));exact⟨a0,a1⟩)
 clear hu hr tz hoc hW hgn hok;go_enter Tryz.func74,Tryz.ntmps74;go_upto_region 1 with(fail)
 rw[show(w.alloc (.cells #[iv m,.slice ga gn gc,.slice oa m oc] RT)).alloc (.cells #[iv 0,.slice none 0 0,iv 0,.slice none 0 0,.slice none 0 0] FNT)=W from HWW.o]
 try rw[hz]
 obtain⟨XV,hXV⟩:∃v:Array Value,#[iv m,.slice ga gn gc,.slice oa m oc]=v:=⟨_,rfl⟩;have HXV:=Zh hXV;rw[hXV] at HX;clear hXV;go_cut [4] from 9 to 15 (fun s4 wx=>∃(p:Nat) (ku:Value),s4=.pointer (some ⟨p,0,none⟩)∧Hid (Cls z p m t XV w wx (.slice ga gn gc) ku (.slice none 0 0) t.gen []))
 case first=>
  refine Zr (fun w'=>w'.cell? ⟨z,0,none⟩=some (iv m)∧w'.cell? ⟨z,1,none⟩=some (.slice ga gn gc)) 7 (HSS.o (W.drewN 1) (Qp (Below.refl _ _) 1)) fun hS0=>?_
  refine Yd 0 9 ?_;refine Yd 1 10 ?_;refine Yd 2 11 ?_;refine Yd 3 12 ?_;refine Qh (rs:=[4,6]) ZK ZD ?_;intro i hi;have hi2:i=4∨i=6:=by simpa using hi
  clear hi;rcases hi2 with rfl|rfl
  ·refine Ql rfl ?_;go_wp2_with fail;refine(KC.o (W.drewN 1) (Qp (Below.refl _ _) 1)).mono ?_;rintro e m1 ⟨ku,rfl,hk,b1⟩;obtain⟨ka,kc,rfl,-⟩:=hk.cell;obtain⟨kn,hkn⟩:=Ze t.gen.words.length;rw[hkn] at hk;rw[show setV t.gen (.slice ka t.gen.words.length kc)=.agg #[iv m,.slice ka kn kc] by rw[←hgw,←hkn]];have BB1:=Zh ((Qp (Below.refl _ _) 1).trans b1:Below W.heap.size W m1);clear hS0;have hS0:=HSS.o m1 BB1.o;go_wp2;refine⟨by first|exact hS0|exact fun _=>hS0,?_⟩;refine Yd 5 14 ?_;have BBV:=Zh (BB1.o.trans ((Below.refl m1.heap.size m1).alloc (Nat.le_refl _) (.cells #[iv 0,.slice none 0 0,iv 0,.slice none 0 0,.slice none 0 0] FNT) |>.mono BB1.o.size));have HT:=Zh (heap_alloc_new m1 (.cells #[iv 0,.slice none 0 0,iv 0,.slice none 0 0,.slice none 0 0] FNT));have HK:=Zh (hk.below ((Below.refl m1.heap.size m1).alloc (Nat.le_refl _) (.cells #[iv 0,.slice none 0 0,iv 0,.slice none 0 0,.slice none 0 0] FNT)));have hpz:z+2≤m1.heap.size:=by have:=BB1.o.size;have:=HSZ.o;omega
   have HBV:=Zh (BW.o.trans (BBV.o.mono (by have:=HSZ.o;omega)));refine QW 6 (some 4) (.pointer (some ⟨m1.heap.size,0,none⟩)) (m1.alloc (.cells #[iv 0,.slice none 0 0,iv 0,.slice none 0 0,.slice none 0 0] FNT)) rfl ZK ZK ?ral rfl (fun _=>HSS.o _ BBV.o) ?_
   case ral=>go_simp
   have fz:=Qa HT.o;have f0:=fz.2 0;have f1:=fz.2 1;have f2:=fz.2 2;have f3:=fz.2 3;have f4:=fz.2 4;have c0:=fz.1 0;have c1:=fz.1 1;have c2:=fz.1 2;have c3:=fz.1 3;have c4:=fz.1 4;simp only[Zx,Zy,Zz] at c0 c1 c2 c3 c4;clear hS0;refine Qeb 7 none ((((((m1.alloc (.cells #[iv 0,.slice none 0 0,iv 0,.slice none 0 0,.slice none 0 0] FNT)).setCell ⟨m1.heap.size,0,none⟩ (iv m)).setCell ⟨m1.heap.size,1,none⟩ (.slice ga gn gc)).setCell ⟨m1.heap.size,2,none⟩ (iv m)).setCell ⟨m1.heap.size,3,none⟩ (.slice ka kn kc)).setCell ⟨m1.heap.size,4,none⟩ (.slice none 0 0)) rfl ZK ZK ?rsp1 rfl (fun h=>absurd rfl h) ?_
   case rsp1=>go_simp
   refine Qu ZK ?_ _;have HC:=Zh (Cls.new (z:=z) (p:=m1.heap.size) (m:=m) (t:=t) (xv:=XV) (w0:=w) HZ.o ZO HBV.o hpz (Qc HX.o BBV.o (Qb HX.o)) (Qc HR.o BBV.o (Qb HR.o)) HT.o (HUW.o.below BBV.o) HK.o hgw);clear f0 f1 f2 f3 f4 c0 c1 c2 c3 c4 fz;go_wp2;go_meet
   case rel=>exact⟨_,_,rfl,HC.o⟩
  ·refine Ql rfl ?_;go_wp2;have BBA:=Zh ((Qp (Below.refl W.heap.size W) 1).alloc (Nat.le_refl _) (.cells #[iv 0,.slice none 0 0,iv 0,.slice none 0 0,.slice none 0 0] FNT));clear hS0;have hS0:=HSS.o _ BBA.o;refine⟨by first|exact hS0|exact fun _=>hS0,?_⟩;refine QP 4 (some 13) 106 #[.agg #[iv m,.slice ga gn gc]] rfl ZK ZK ZK rfl ?_;refine(KC.o ((W.drewN 1).alloc (.cells #[iv 0,.slice none 0 0,iv 0,.slice none 0 0,.slice none 0 0] FNT)) BBA.o).mono ?_;rintro e m1 ⟨ku,rfl,hk,b1⟩;obtain⟨ka,kc,rfl,-⟩:=hk.cell;obtain⟨kn,hkn⟩:=Ze t.gen.words.length;rw[hkn] at hk;rw[show setV t.gen (.slice ka t.gen.words.length kc)=.agg #[iv m,.slice ka kn kc] by rw[←hgw,←hkn]];have BBV:=Zh (BBA.o.trans (b1.mono ZS):Below W.heap.size W m1);clear hS0;have hS0:=HSS.o m1 BBV.o;refine⟨_,rfl,fun _=>hS0,?_⟩;refine Yd 5 14 ?_;have HT:=Zh (Qc (heap_alloc_new (W.drewN 1) (.cells #[iv 0,.slice none 0 0,iv 0,.slice none 0 0,.slice none 0 0] FNT)) b1 ZS:m1.heap[W.heap.size]? = _);have HK:=Zh hk;have hpz:z+2≤W.heap.size:=by have:=HSZ.o;omega
   have HBV:=Zh (BW.o.trans (BBV.o.mono (by have:=HSZ.o;omega)));have fz:=Qa HT.o;have f0:=fz.2 0;have f1:=fz.2 1;have f2:=fz.2 2;have f3:=fz.2 3;have f4:=fz.2 4;have c0:=fz.1 0;have c1:=fz.1 1;have c2:=fz.1 2;have c3:=fz.1 3;have c4:=fz.1 4;simp only[Zx,Zy,Zz] at c0 c1 c2 c3 c4;clear hS0;refine Qeb 7 none (((((m1.setCell ⟨W.heap.size,0,none⟩ (iv m)).setCell ⟨W.heap.size,1,none⟩ (.slice ga gn gc)).setCell ⟨W.heap.size,2,none⟩ (iv m)).setCell ⟨W.heap.size,3,none⟩ (.slice ka kn kc)).setCell ⟨W.heap.size,4,none⟩ (.slice none 0 0)) rfl ZK ZK ?rsp2 rfl (fun h=>absurd rfl h) ?_
   case rsp2=>go_simp
   refine Qu ZK ?_ _;have HC:=Zh (Cls.new (z:=z) (p:=W.heap.size) (m:=m) (t:=t) (xv:=XV) (w0:=w) HZ.o ZO HBV.o hpz (Qc HX.o BBV.o (Qb HX.o)) (Qc HR.o BBV.o (Qb HR.o)) HT.o (HUW.o.below BBV.o) HK.o hgw);clear f0 f1 f2 f3 f4 c0 c1 c2 c3 c4 fz;go_wp2;go_meet
   case rel=>exact⟨_,_,rfl,HC.o⟩
 case rest=>
  obtain⟨p,ku,rfl,HC⟩:=hcut;have hbz:Base.b≤z:=HC.o.bs;have hpz:z+2≤p:=HC.o.zp;have hxb:=HC.o.xb;rw[←HXV.o] at hxb;obtain⟨x0,x1,x2⟩:=QVa hxb;have HC0:=Zh (show Cls z p m t XV w wc (.slice ga gn gc) ku (.slice none 0 0) (QJb t m 0) (copC t m 0) by
   rw[Qno OK.o.gen];exact HC.o)
  clear hxb HC KC;go_wp2;clear x0 x1 x2;go_loopw [18] (fun y wr=>∃(i:Nat) (ku cu:Value),i≤m∧y=.int .i64 i∧Hid (Cls z p m t XV w wr (.slice ga gn gc) ku cu (QJb t m i) (copC t m i))) (fun y _=>m-(intOf y).toNat)
  case atStart=>exact⟨0,_,_,Nat.zero_le _,rfl,HC0.o⟩
  case round=>
   obtain⟨i,ku,cu,hi,rfl,HC1⟩:=hrel;by_cases hlt:i<m;rotate_left
   ·obtain rfl:i=m:=by omega
    have HK:=Zh (QTq t i hm);have hcl:=Qdn OK.o.len (m:=i) i;obtain⟨ca,cc,hce,-⟩:=HC1.o.cops.at_.cell;obtain⟨kka,kkc,hke,-⟩:=HC1.o.kill.cell;obtain⟨kn,hkn⟩:=Ze ((QJb t i i).words.length);obtain⟨cn,hcn⟩:=Ze ((copC t i i).length);rw[hkn] at hke;rw[hcn] at hce hcl;subst hke hce;have HT1:=Zh HC1.o.tb;have HR1:=Zh HC1.o.rb;obtain⟨t0,t1,t2,t3,t4⟩:=QJ HT1.o;obtain⟨c0,c1,c2,c3,c4⟩:=QJ HR1.o;have f0:=(Qa HR1.o).2 0;have f1:=(Qa HR1.o).2 1;have f2:=(Qa HR1.o).2 2;have f3:=(Qa HR1.o).2 3;have f4:=(Qa HR1.o).2 4;have e5:=set5 HR1.o (iv i) (.slice ga gn gc) (iv i) (.slice kka kn kkc) (.slice ca cn cc);have E5:=Zh e5;have HS:=Zh (fun (T:TypeId) (hne:T≠FNT)=>Quc (T:=T) (Qv HR1.o ZO) hne (iv i) (.slice ga gn gc) (iv i) (.slice kka kn kkc) (.slice ca cn cc));have HG5:=Zh (HC1.o.gen.keep (HS.o _ ZD));have HK5:=Zh (HC1.o.kill.keep (HS.o _ ZD));have HC5:=Zh (Qg.same HC1.o.cops.at_ (HS.o CT ZD));have HB5:=Zh (show Below z w (((((wr.setCell ⟨z+1,0,none⟩ (iv i)).setCell ⟨z+1,1,none⟩ (.slice ga gn gc)).setCell ⟨z+1,2,none⟩ (iv i)).setCell ⟨z+1,3,none⟩ (.slice kka kn kkc)).setCell ⟨z+1,4,none⟩ (.slice ca cn cc)) from
     ((((HC1.o.below.setCell (by show z≤z+1;omega) _).setCell (by show z≤z+1;omega) _).setCell (by show z≤z+1;omega) _).setCell (by show z≤z+1;omega) _).setCell (by show z≤z+1;omega) _)
    have hkw:=Zh (show(Qlb t i).kill.width=(i:Int) by rw[←HK.o];exact(Qre t hm i).width);clear e5 hkn hcn;go_wp2;obtain⟨g0,g1,g2,g3,g4⟩:=QJ E5.o;refine bodyPost_ret (v:=.tuple #[.agg #[iv i,.slice ga gn gc,iv i,.slice kka kn kkc,.slice ca cn cc],iv 0]) (by simp[results,Tryz.results74,go_sem,g0,g1,g2,g3,g4]) rfl ⟨.slice ga gn gc,.slice kka kn kkc,.slice ca cn cc,?_,⟨HG5.o,?_,HC5.o⟩,?_⟩
    ·rw[show trV (Qlb t i) (.slice ga gn gc) (.slice kka kn kkc) (.slice ca cn cc)=.agg #[iv t.gen.width,.slice ga gn gc,iv (Qlb t i).kill.width,.slice kka kn kkc,.slice ca cn cc] from rfl,hkw.o,hgw]
    ·rw[←HK.o];exact HK5.o
    ·rw[HZ.o];exact HB5.o
   ·obtain⟨b4,o4,cs,rfl,hb4,⟨ru,rfl,hru⟩,hrc⟩:=HOC.o i (mkS m (folB t i)) (by unfold Qpi;rw[List.getElem?_map,List.getElem?_range hlt];rfl);have HROK:=Zh (QIb (folB t i) hm:Ok m (mkS m (folB t i)));have g0:=hrc 0 (show 0<2 by decide);have g1:=hrc 1 (show 1<2 by decide);simp only[Qsa,Nat.add_zero,List.getElem?_cons_zero,List.getElem?_cons_succ] at g0 g1;rw[HROK.o.width] at g0;have hb4z:b4<z:=by have:=HZ.o;omega
    have g0:=(HC1.o.below.cell (p:=⟨b4,o4+i*2,none⟩) hb4z).trans g0;have g1:=(HC1.o.below.cell (p:=⟨b4,o4+i*2+1,none⟩) hb4z).trans g1;obtain⟨ra,rc,rfl,-⟩:=hru.cell;have HRU:=Zh hru;obtain⟨rn,hrn⟩:=Ze ((mkS m (folB t i)).words.length);rw[hrn] at g1 HRU;obtain⟨W4,hW4⟩:=Ze (wr.alloc (.cells #[iv m,.slice ra rn rc] ST));obtain⟨sb,hsb⟩:=Ze wr.heap.size;have B4:=Zh (show Below wr.heap.size wr W4 by rw[←hW4];exact Zb);have HS4:=Zh (show W4.heap[sb]? = some (.cells #[iv m,.slice ra rn rc] ST (0,0)) by rw[←hW4,←hsb];exact heap_alloc_new _ _);have HC4:=Zh (HC1.o.next B4.o);have HW4:=Zh hW4;have hsz:z≤sb:=by have:=HC1.o.zw;omega
    have hpsb:p<sb:=by have:=Qb HC1.o.tb;omega
    clear hW4 hru hrn hrc B4;go_upto_region 5 with(fail)
    rw[show wr.alloc (.cells #[iv m,.slice ra rn rc] ST)=W4 from HW4.o]
    try rw[hsb]
    clear g0 g1;obtain⟨s0,s1⟩:=Qq HS4.o;obtain⟨b,hb⟩:=Ze (folB t i i);have KH:=Zh (show Calls Tryz.prog 139 #[.agg #[iv m,.slice ra rn rc],iv i] W4 (Qia b W4) by
     have h1:=QPj (mkS m (folB t i)) i (.slice ra rn rc) W4 (HRU.o.below (HC4.o.zs▸HC4.o.below));rw[QCj HROK.o hlt,Qpb _ hm,show decide (i<m)=true by simpa using hlt,Bool.true_and,hb] at h1;rw[show setV (mkS m (folB t i)) (.slice ra rn rc)=.agg #[iv m,.slice ra rn rc] by rw[←HROK.o.width]] at h1;exact h1)
    have HKS:=Zh (Qoo t hm hlt);rw[hb] at HKS;clear hb;go_upto_if 26 with(go_at_call 139;refine KH.o.mono ?_;rintro e w5 ⟨rfl,b5⟩)
    have HC5:=Zh (HC4.o.next b5);have HS5:=Zh (Qc HS4.o b5 (Qb HS4.o));clear b5 s0 s1 HC4 HS4 HW4 KH;go_cut [5] from 23 to 35 (fun s5 wx=>∃ku:Value,s5=iv i∧Hid (Cls z p m t XV w wx (.slice ga gn gc) ku cu (QJb t m (i+1)) (copC t m i))∧Hid (wx.heap[sb]? = some (.cells #[iv m,.slice ra rn rc] ST (0,0))))
    case first=>
     cases b with
    |true=>
      have HC6:=Zh (show Cls z p m t XV w w5 (.slice ga gn gc) ku cu (QJb t m (i+1)) (copC t m i) by rw[HKS.o,if_pos rfl];exact HC5.o);go_wp2;go_meet
      case rel=>exact⟨_,rfl,HC6.o,HS5.o⟩
    |false=>
      obtain⟨ka,kc,rfl,-⟩:=HC5.o.kill.cell;obtain⟨kn,hkn⟩:=Ze ((QJb t m i).words.length);rw[hkn] at HC5 HC1;have KW:=Zh (show Calls Tryz.prog 140 #[.agg #[iv m,.slice ka kn kc],iv i] w5 (QAd (putS (QJb t m i) i,0) w5) by
       have h1:=QPg (QJb t m i) i (.slice ka kn kc) w5 HC5.o.kill (by have:=HC5.o.zw;omega);rw[show setV (QJb t m i) (.slice ka kn kc)=.agg #[iv m,.slice ka kn kc] by rw[←(Qre t hm i).width]] at h1;rw[show chgS (QJb t m i) (i:Int) true=(putS (QJb t m i) i,0) by
        unfold chgS;rw[if_pos (Qre t hm i).ok,if_pos ⟨by omega,by rw[(Qre t hm i).width];omega⟩];simp] at h1
       exact h1)
      clear hkn;obtain⟨t0,t1,t2,t3,t4⟩:=QJ HC5.o.tb;go_wp2_with fail;refine KW.o.mono ?_;rintro e w6 ⟨fu,rfl,hf,b6⟩;obtain⟨fa,fc,rfl,-⟩:=hf.cell;have PW:(putS (QJb t m i) i).width=(m:Int):=(Qre t hm i).width;obtain⟨fn,hfn⟩:=Ze ((putS (QJb t m i) i).words.length);have HF6:=Zh (hfn▸hf:Qi w6 (.slice fa fn fc) (putS (QJb t m i) i).words);simp only[setV,hfn,PW];have HC6:=Zh (HC5.o.next b6);have HS6:=Zh (Qc HS5.o b6 (Qb HS5.o));have HC7:=Zh (show Cls z p m t XV w ((w6.setCell ⟨p,2,none⟩ (iv m)).setCell ⟨p,3,none⟩ (.slice fa fn fc)) (.slice ga gn gc) (.slice fa fn fc) cu (QJb t m (i+1)) (copC t m i) by
       rw[HKS.o,if_neg ZS];exact HC6.o.turn HF6.o PW)
      have HS7:=Zh (show((w6.setCell ⟨p,2,none⟩ (iv m)).setCell ⟨p,3,none⟩ (.slice fa fn fc)).heap[sb]? = some (.cells #[iv m,.slice ra rn rc] ST (0,0)) by
       rw[Below.heap_setCell _ _ _ _ (by show sb≠p;omega),Below.heap_setCell _ _ _ _ (by show sb≠p;omega)];exact HS6.o)
      clear t0 t1 t2 t3 t4 hf b6 hfn PW;obtain⟨t0,t1,t2,t3,t4⟩:=QJ HC6.o.tb;have f2:=(Qa HC6.o.tb).2 2;have f3:=(Qa HC6.o.tb).2 3;go_wp2;go_meet
      case rel=>exact⟨_,rfl,HC7.o,HS7.o⟩
    case rest=>
     obtain⟨ku,rfl,HC5,HS5⟩:=hcut;obtain⟨s0,s1⟩:=Qq HS5.o;have hxb:=HC5.o.xb;rw[←HXV.o] at hxb;obtain⟨x0,x1,x2⟩:=QVa hxb;obtain⟨r,hr1,hrok,hrb⟩:=QXo HROK.o OK.o.gen;have RB:=Zh hrb;have ROK:=Zh hrok;have KD:=Zh (show Calls Tryz.prog 93 #[.agg #[iv m,.slice ra rn rc],.agg #[iv m,.slice ga gn gc]] wc (SetE (r,0) wc) by
      have h1:=Qbi (mkS m (folB t i)) t.gen (.slice ra rn rc) (.slice ga gn gc) wc (HRU.o.below (HC5.o.zs▸HC5.o.below)) HC5.o.gen;rw[hr1,show setV (mkS m (folB t i)) (.slice ra rn rc)=.agg #[iv m,.slice ra rn rc] by rw[←HROK.o.width],show setV t.gen (.slice ga gn gc)=.agg #[iv m,.slice ga gn gc] by rw[←hgw]] at h1;exact h1)
     clear hr1 hrok hrb hxb;go_wp2_with fail;refine KD.o.mono ?_;rintro e w6 ⟨du,rfl,hd,b6⟩;obtain⟨da,dn,dc,rfl⟩:=hd.shape;have HD6:=Zh hd.words;simp only[setV,ROK.o.width];have HC6:=Zh (HC5.o.next b6);have HS6:=Zh (Qc HS5.o b6 (Qb HS5.o));have hT6:tyAt w6 sb=some ST:=Qv HS6.o ZO;have hT7:tyAt (w6.setCell ⟨sb,0,none⟩ (iv m)) sb=some ST:=by rw[QS];exact hT6
     obtain⟨W7,hW7⟩:=Ze ((w6.setCell ⟨sb,0,none⟩ (iv m)).setCell ⟨sb,1,none⟩ (.slice da dn dc));have HC7:=Zh (show Cls z p m t XV w W7 (.slice ga gn gc) ku cu (QJb t m (i+1)) (copC t m i) by rw[←hW7];exact(HC6.o.off hpsb hT6 0 _).off hpsb hT7 1 _);have HS7:=Zh (show W7.heap[sb]? = some (.cells #[iv m,.slice da dn dc] ST (0,0)) by rw[←hW7];exact Qvb (Qwb HS6.o _) _);have HD7:=Zh (show Qi W7 (.slice da dn dc) r.words by
      rw[←hW7];exact(HD6.o.keep (Qf.setCell (U:=ST) hT6 ZD)).keep (Qf.setCell (U:=ST) hT7 ZD))
     have HW7:=Zh hW7;have KM:=Zh (show Calls Tryz.prog 141 #[.agg #[iv m,.slice da dn dc]] W7 (QWk ((memS r).map fun n:Nat=>(n:Int)) W7) by
      have h1:=Qxl (B:=B) r (.slice da dn dc) W7 HD7.o ((TZ.o.below (HC7.o.below.mono (by have:=HZ.o;omega))).tz) (by have:=HC7.o.zw;have:=HZ.o;omega);rw[show setV r (.slice da dn dc)=.agg #[iv m,.slice da dn dc] by rw[←ROK.o.width]] at h1;exact h1)
     clear s0 s1 x0 x1 x2 hd b6 hW7 hT6 hT7 KD;obtain⟨s0,s1⟩:=Qq HS6.o;have f0:=(Qa HS6.o).2 0;have f1:=(Qa HS6.o).2 1;go_upto_region 8 with(fail)
     rw[show(w6.setCell ⟨sb,0,none⟩ (iv m)).setCell ⟨sb,1,none⟩ (.slice da dn dc)=W7 from HW7.o];clear s0 s1 f0 f1 HC6 HS6 HD6 HW7;obtain⟨s0,s1⟩:=Qq HS7.o;go_wp2_with fail;refine KM.o.mono ?_;rintro e w8 ⟨mv,rfl,hmv,b8⟩;have HC8:=Zh (HC7.o.next b8);have HMV:=Zh hmv;obtain⟨ma,mc,rfl,hml,-⟩:=hmv.cell;rw[List.length_map] at hml ⊢;rw[List.length_map] at HMV;obtain⟨ml,hmlE⟩:=Ze ((memS r).length);rw[hmlE] at HMV hml ⊢;have HMLE:=Zh hmlE;clear hmv b8 s0 s1 HC7 HS7 HD7 KM HC5 HS5 hmlE;unfold maxLen at hml;obtain⟨wd,rfl⟩:∃x:World,x=wr:=⟨_,rfl⟩;clear HC1;go_wp2;go_loopw [45] (fun y wr=>∃(k:Nat) (cu:Value),k≤ml∧y=.int .i64 k∧Hid (QJa wr (.slice ma ml mc) ((memS r).map fun n:Nat=>(n:Int)))∧Hid (Cls z p m t XV w wr (.slice ga gn gc) ku cu (QJb t m (i+1)) (copC t m i++copK i ((memS r).take k)))) (fun y _=>ml-(intOf y).toNat)
     case atStart=>exact⟨0,cu,Nat.zero_le _,rfl,HMV.o,by unfold Hid;simpa [copK] using HC8.o⟩
     case round=>
      obtain⟨k,cu,hk,rfl,HI,HCk⟩:=hrel;by_cases hlk:k<ml;rotate_left
      ·obtain rfl:k=ml:=by omega
       have HCE:=Zh (show Cls z p m t XV w wr (.slice ga gn gc) ku cu (QJb t m (i+1)) (copC t m (i+1)) by
        have h1:=HCk.o;rw[List.take_of_length_le (by rw[HMLE.o];exact Nat.le_refl _),QKs (t:=t) ROK.o (fun b=>by rw[RB.o,Qpb _ hm])] at h1;rw[QMk];exact h1)
       go_wp2;go_roundw
       case rel=>exact⟨i+1,_,_,by omega,by go_num,HCE.o⟩
       case measure=>simp[intOf];omega
      ·obtain⟨x,hx⟩:∃x,(memS r)[k]? = some x:=⟨_,List.getElem?_eq_getElem (by rw[HMLE.o];exact hlk)⟩;have HTK:=Zh (show(memS r).take (k+1)=(memS r).take k++[x] by rw[List.take_add_one,hx];rfl);obtain⟨ma',mc',e9,-,-,-,hmc⟩:=HI.o.cell;rw[List.length_map,HMLE.o] at e9;injection e9 with e9 _ e10
       subst e9 e10;obtain⟨b5,o5,rfl,hb5,g5⟩:=hmc k (x:Int) (by rw[List.getElem?_map,hx];rfl);clear hmc hx;by_cases e:x=i
       ·have t1:((x:Int) !=(i:Int))=false:=by simpa using (by exact_mod_cast e:(x:Int)=(i:Int))
        have HC9:=Zh (show Cls z p m t XV w wr (.slice ga gn gc) ku cu (QJb t m (i+1)) (copC t m i++copK i ((memS r).take (k+1))) by
         rw[HTK.o,QLk,if_pos e];exact HCk.o)
        clear e;go_wp2;go_roundw
        case rel=>exact⟨k+1,cu,by omega,by go_num,HI.o,HC9.o⟩
        case measure=>simp[intOf];omega
       ·have t1:((x:Int) !=(i:Int))=true:=by simpa using (fun h=>e (by exact_mod_cast h):¬(x:Int)=(i:Int))
        have HST:=Zh (show copC t m i++copK i ((memS r).take (k+1))=(copC t m i++copK i ((memS r).take k))++[((i:Int),(x:Int))] by
         rw[HTK.o,QLk,if_neg e,List.append_assoc])
        have hD:(copC t m i++copK i ((memS r).take k)).length≤64+ml:=by
         have h1:=Qdn OK.o.len (m:=m) i;have h2:(copK i ((memS r).take k)).length≤ml:=by
          unfold copK;rw[List.length_map];refine Nat.le_trans (List.length_filter_le _ _) ?_;rw[List.length_take];omega
         rw[List.length_append];omega
        obtain⟨D,hDD⟩:=Ze (copC t m i++copK i ((memS r).take k));rw[hDD] at HST hD HCk;have hml2:ml≤256:=by
         rw[←HMLE.o];unfold memS;rw[if_pos ROK.o.ok,ROK.o.width];refine Nat.le_trans (List.length_filter_le _ _) ?_;rw[List.length_range];omega
        have HOC2:=Zh HCk.o.cops;have hzW:=HCk.o.zw;have PUSH:=Zh (show ∀g cap w',w'.ownsRow z CT 2 (.slice (some ⟨g,0,none⟩) (D.length+1) cap) (D.length+1) (QHa D++[iv i,iv x])→wr.grownBy w' cu.ownBlock →
          (Cls z p m t XV w (w'.setCell ⟨p,4,none⟩ (.slice (some ⟨g,0,none⟩) (D.length+1) cap)) (.slice ga gn gc) ku (.slice (some ⟨g,0,none⟩) (D.length+1) cap) (QJb t m (i+1)) (D++[((i:Int),(x:Int))])∧w'.heap[p]? = some (.cells #[iv m,.slice ga gn gc,iv m,ku,cu] FNT (0,0))) ∧
          QJa (w'.setCell ⟨p,4,none⟩ (.slice (some ⟨g,0,none⟩) (D.length+1) cap)) (.slice (some ⟨b5,o5,none⟩) ml mc) ((memS r).map fun n:Nat=>(n:Int)) from fun g cap w' ho hg=>by
         have h1:=HCk.o.push (c:=((i:Int),(x:Int))) ho hg;refine⟨h1,(HI.o.same (Qf.grown hg HOC2.o ZD (by have:=HCk.o.bs;omega))).same (Qf.setCell (U:=FNT) (show tyAt w' p=some FNT from Qv h1.2 (by have:=HCk.o.bs;have:=HCk.o.zp;omega)) ZD)⟩)
        obtain⟨t0,t1',t2,t3,t4⟩:=QJ HCk.o.tb;clear e hDD;go_wp2_with (at_builtin;refine QL [iv i,iv x] rfl _ _ _ rfl z CT _ 2 16 Tryz.underlying53 Qbf rfl ZO _ _ _ HOC2.o rfl rfl rfl rfl (by unfold maxLen;omega) ZO hzW ?_;intro g cap w9 ho hg hzg _;have HP9:=Zh (PUSH.o g cap w9 ho hg);have v2:=(Qa HP9.o.1.2).1 4;have v3:=(Qa HP9.o.1.2).2 4;simp only[Zx,Zy,Zz] at v2;clear ho hg hzg);have HC9:=Zh (HST.o▸HP9.o.1.1);go_roundw
        case rel=>exact⟨k+1,_,by omega,by go_num,HP9.o.2,HC9.o⟩
        case measure=>simp[intOf];omega
end
section
open Go.RowKit
variable [Base]
theorem Qll {w:World}(a b c:Obj):(((w.alloc a).alloc b).alloc c).heap[w.heap.size+1+1]? = some c:=by
 have h:=heap_alloc_new ((w.alloc a).alloc b) c
 simpa using h
abbrev FNA:TypeId:=55
section
variable {z q m:Nat} {tv sv:Array Value} {w0 w w':World} {u:Value} {o:QSet}
end
end
section
open Go.RowKit
variable [Base]
theorem Qja.tw {w:World}{gu ku cu:Value}{t:Qw}(h:Qja w gu ku cu t):QSi t:=⟨h.gen.2,h.kill.2⟩
theorem Qii {w:World}:Qi w (.slice none 0 0) []:=⟨Qg.nil,by simp[QLa]⟩
theorem Qqr {B:Nat}(t:Qw)(gu ku cu:Value)(w:World)(h:Qja w gu ku cu t)(tz:TzIn B w)(hB:B≤w.heap.size):
  Calls Tryz.prog 19 #[trV t gu ku cu] w (QCl (QKg t) w):=by
 have TW:=Zh h.tw;have hbs:Base.b≤w.heap.size:=by have:=tz.bs;omega
 have TZ:=Zh tz;have HT:=Zh h;obtain⟨ga,gc,rfl,-,-,-,-⟩:=h.gen.cell;obtain⟨ka,kc,rfl,-,-,-,-⟩:=h.kill.cell;obtain⟨ca,cc,rfl,-,-,-,-⟩:=h.cops.cell;simp only[trV];obtain⟨gn,hgn⟩:=Ze t.gen.words.length;obtain⟨kn,hkn⟩:=Ze t.kill.words.length;obtain⟨n,hn⟩:=Ze t.cops.length;rw[hgn,hkn,hn] at HT ⊢;obtain⟨z,hz⟩:=Ze w.heap.size;obtain⟨W,hW⟩:=Ze ((w.alloc (.cells #[iv t.gen.width,.slice ga gn gc,iv t.kill.width,.slice ka kn kc,.slice ca n cc] FNA)).alloc (.cells #[iv 0,.slice none 0 0,iv 0,.slice none 0 0,.slice none 0 0] FNA));have HWW:=Zh hW;have HZ:=Zh hz;have BW:=Zh (show Below z w W by rw[←hW,←hz];exact(Zb).alloc ZS _);have HX:=Zh (show W.heap[z]? = some (.cells #[iv t.gen.width,.slice ga gn gc,iv t.kill.width,.slice ka kn kc,.slice ca n cc] FNA (0,0)) by rw[←hW,←hz,Below.heap_alloc _ _ _ ZS];exact heap_alloc_new _ _);have HR:=Zh (show W.heap[z+1]? = some (.cells #[iv 0,.slice none 0 0,iv 0,.slice none 0 0,.slice none 0 0] FNA (0,0)) by rw[←hW,←hz];exact Qda _ _);have HSZ:=Zh (show W.heap.size=z+2 by rw[←hW,←hz];simp);have HTW:=Zh (HT.o.below (HZ.o▸BW.o));have KV:=Zh (Qng t (.slice ga gn gc) (.slice ka kn kc) (.slice ca n cc) W HTW.o);simp only[trV] at KV;clear h tz hW hgn hkn hn;obtain⟨x0,x1,x2,x3,x4⟩:=QJ HX.o;go_enter Tryz.func19,Tryz.ntmps19;go_upto_region 1 with(fail)
 rw[show(w.alloc (.cells #[iv t.gen.width,.slice ga gn gc,iv t.kill.width,.slice ka kn kc,.slice ca n cc] FNA)).alloc (.cells #[iv 0,.slice none 0 0,iv 0,.slice none 0 0,.slice none 0 0] FNA)=W from HWW.o]
 try rw[hz]
 go_wp2_with fail;refine KV.o.mono ?_;rintro e w1 ⟨rfl,b1⟩;have B1:=Zh b1;have HX1:=Zh (Qc HX.o b1 (Qb HX.o));have HR1:=Zh (Qc HR.o b1 (Qb HR.o));have HT1:=Zh (HTW.o.below b1);have BW1:=Zh (BW.o.trans (b1.mono (by have:=HSZ.o;omega)));clear b1 x0 x1 x2 x3 x4 KV;obtain⟨b,hb⟩:=Ze (Qtd t);rw[hb]
 cases b with
|false=>
  have HC:=Zh (show QKg t=(⟨⟨0,[]⟩,⟨0,[]⟩,[]⟩,1) by unfold QKg;rw[hb];rfl);obtain⟨c0,c1,c2,c3,c4⟩:=QJ HR1.o;have f0:=(Qa HR1.o).2 0;have f1:=(Qa HR1.o).2 1;have f2:=(Qa HR1.o).2 2;have f3:=(Qa HR1.o).2 3;have f4:=(Qa HR1.o).2 4;have E5:=Zh (set5 HR1.o (iv 0) (.slice none 0 0) (iv 0) (.slice none 0 0) (.slice none 0 0));have HB5:=Zh (show Below z w (((((w1.setCell ⟨z+1,0,none⟩ (iv 0)).setCell ⟨z+1,1,none⟩ (.slice none 0 0)).setCell ⟨z+1,2,none⟩ (iv 0)).setCell ⟨z+1,3,none⟩ (.slice none 0 0)).setCell ⟨z+1,4,none⟩ (.slice none 0 0)) from
   ((((BW1.o.setCell (by show z≤z+1;omega) _).setCell (by show z≤z+1;omega) _).setCell (by show z≤z+1;omega) _).setCell (by show z≤z+1;omega) _).setCell (by show z≤z+1;omega) _)
  clear hb;go_wp2;obtain⟨g0,g1,g2,g3,g4⟩:=QJ E5.o;refine bodyPost_ret (v:=.tuple #[.agg #[iv 0,.slice none 0 0,iv 0,.slice none 0 0,.slice none 0 0],iv 1]) (by simp[results,Tryz.results19,go_sem,g0,g1,g2,g3,g4]) rfl ?_;rw[HC.o];exact⟨.slice none 0 0,.slice none 0 0,.slice none 0 0,rfl,⟨Qii,Qii,QKc.nil⟩,by rw[HZ.o];exact HB5.o⟩
|true=>
  obtain⟨m,hgw,hok⟩:=QRi hb TW.o;have HOK:=Zh hok;have HC:=Zh (show QKg t=(Qlb t m,0) by unfold QKg;rw[hb,hgw];rfl);have KO:=Zh (QWr m t hok (.slice ga gn gc) (.slice ka kn kc) (.slice ca n cc) w1 HT1.o (by have:=BW1.o.size;omega));simp only[trV] at KO;have HGW:=Zh hgw;clear hb hok hgw;obtain⟨x0,x1,x2,x3,x4⟩:=QJ HX1.o;go_wp2_with fail;refine KO.o.mono ?_;rintro e w2 ⟨ru,ofv,rfl,hru,hrow,b2⟩;have B2:=Zh (BW1.o.trans (b2.mono (by have:=BW1.o.size;omega)));have HR2:=Zh (Qc HR1.o b2 (Qb HR1.o));have KCl:=Zh (Qnr (B:=B) m t HOK.o ru ofv w2 hru hrow (TZ.o.below (B2.o.mono (by have:=HZ.o;omega))) (by have:=B2.o.size;have:=HZ.o;omega));clear hru hrow b2 x0 x1 x2 x3 x4;rw[HGW.o];go_wp2_with fail;refine KCl.o.mono ?_;rintro e w3 ⟨au,bu,cu,rfl,ht,b3⟩;obtain⟨aa,ac,rfl,-,-,-,-⟩:=ht.gen.cell;obtain⟨ba,bc,rfl,-,-,-,-⟩:=ht.kill.cell;obtain⟨da,dc,rfl,-,-,-,-⟩:=ht.cops.cell;simp only[trV];obtain⟨an,han⟩:=Ze ((Qlb t m).gen.words.length);obtain⟨bn,hbn⟩:=Ze ((Qlb t m).kill.words.length);obtain⟨dn,hdn⟩:=Ze ((Qlb t m).cops.length);rw[han,hbn,hdn] at ht ⊢;obtain⟨aw,haw⟩:=Ze ((Qlb t m).gen.width);obtain⟨bw,hbw⟩:=Ze ((Qlb t m).kill.width);rw[haw,hbw];have HAW:=Zh haw;have HBW:=Zh hbw;have HT3:=Zh ht;have B3:=Zh (B2.o.trans (b3.mono (by have:=B2.o.size;omega)));have HR3:=Zh (Qc HR2.o b3 (Qb HR2.o));clear ht b3 han hbn hdn haw hbw;obtain⟨c0,c1,c2,c3,c4⟩:=QJ HR3.o;have f0:=(Qa HR3.o).2 0;have f1:=(Qa HR3.o).2 1;have f2:=(Qa HR3.o).2 2;have f3:=(Qa HR3.o).2 3;have f4:=(Qa HR3.o).2 4;have E5:=Zh (set5 HR3.o (iv aw) (.slice aa an ac) (iv bw) (.slice ba bn bc) (.slice da dn dc));have HS:=Zh (fun (T:TypeId) (hne:T≠FNA)=>Quc (T:=T) (Qv HR3.o (by have:=HZ.o;omega)) hne (iv aw) (.slice aa an ac) (iv bw) (.slice ba bn bc) (.slice da dn dc));have HT5:=Zh (HT3.o.keep (HS.o _ ZD) (HS.o _ ZD));have HB5:=Zh (show Below z w (((((w3.setCell ⟨z+1,0,none⟩ (iv aw)).setCell ⟨z+1,1,none⟩ (.slice aa an ac)).setCell ⟨z+1,2,none⟩ (iv bw)).setCell ⟨z+1,3,none⟩ (.slice ba bn bc)).setCell ⟨z+1,4,none⟩ (.slice da dn dc)) from
   ((((B3.o.setCell (by show z≤z+1;omega) _).setCell (by show z≤z+1;omega) _).setCell (by show z≤z+1;omega) _).setCell (by show z≤z+1;omega) _).setCell (by show z≤z+1;omega) _)
  go_wp2;obtain⟨g0,g1,g2,g3,g4⟩:=QJ E5.o;refine bodyPost_ret (v:=.tuple #[.agg #[iv aw,.slice aa an ac,iv bw,.slice ba bn bc,.slice da dn dc],iv 0]) (by simp[results,Tryz.results19,go_sem,g0,g1,g2,g3,g4]) rfl ?_;rw[HC.o];exact⟨.slice aa an ac,.slice ba bn bc,.slice da dn dc,by rw[show trV (Qlb t m,(0:Int)).1 (.slice aa an ac) (.slice ba bn bc) (.slice da dn dc)=.agg #[iv (Qlb t m).gen.width,.slice aa an ac,iv (Qlb t m).kill.width,.slice ba bn bc,.slice da dn dc] from rfl,HAW.o,HBW.o],HT5.o,by rw[HZ.o];exact HB5.o⟩
end
section
open Go
section
variable {P:Program} {ops:Array Oper} {Q:Exit→Act→World→Prop} {md:Region.Mode}
theorem Qs {K:Act→World→Prop}(i:Nat)(d:Option Tmp)(v:Value)(w':World){oi:Oper}{a:Act}{w:World}(hi:ops[i]? = some oi)(hwant:Region.wanted oi (yielded ops a.tmps)=true)(hrun:(execOp a.eval oi).run P w=.ok (.value v) w')(hd:oi.dst=d)(h:K (a.put d v) w'):wpOp P ops Q i K a w:=by
 subst hd;unfold wpOp;rw[hi];show if Region.wanted oi (yielded ops a.tmps) then _ else _
 rw[if_pos hwant];left;unfold Oper.wp;rw[hrun,Oper.upon_value];exact h
theorem QQ {K:Act→World→Prop}(i:Nat)(d:Option Tmp)(w':World){oi:Oper}{a:Act}{w:World}(hi:ops[i]? = some oi)(hwant:Region.wanted oi (yielded ops a.tmps)=true)(hrun:(execOp a.eval oi).run P w=.ok .skip w')(hd:oi.dst=d)(h:K (a.put d undef) w'):wpOp P ops Q i K a w:=by
 subst hd;unfold wpOp;rw[hi];show if Region.wanted oi (yielded ops a.tmps) then _ else _
 rw[if_pos hwant];left;unfold Oper.wp;rw[hrun,Oper.upon_skip];exact h
theorem Qla {K:Act→World→Prop}(i:Nat)(d:Option Tmp)(fn:FuncId)(vals:Array Value){oi:Oper}{a:Act}{w:World}(hi:ops[i]? = some oi)(hwant:Region.wanted oi (yielded ops a.tmps)=true)(hrun:(execOp a.eval oi).run P w=.ok (.enter fn vals) w)(hd:oi.dst=d)(hc:Calls P fn vals w fun e w'=>∃v,e=.returned v∧K (a.put d v) w'):wpOp P ops Q i K a w:=by
 subst hd;unfold wpOp;rw[hi];show if Region.wanted oi (yielded ops a.tmps) then _ else _
 rw[if_pos hwant];left;unfold Oper.wp;rw[hrun,Oper.upon_enter];refine hc.mono ?_;rintro e w' ⟨v,rfl,h⟩;exact h
end
end
section
open Go.RowKit
variable [Base]
theorem QPl {s:QD}(h:stmtB s=true):1≤s.op∧s.op≤9:=by
 unfold stmtB opB at h;simp only[Bool.and_eq_true] at h;have h4:=h.2.2
 split at h4
 ·omega
 split at h4
 ·omega
 split at h4
 ·omega
 split at h4
 ·omega
 split at h4
 ·omega
 split at h4
 ·omega
 split at h4
 ·omega
 ·cases h4
def effN (o k:Nat):Nat:=
 match o,k with
|1,1=>3|1,2=>9|1,3=>17|1,4=>17
|4,1=>3|4,2=>1|4,3=>5|4,4=>1
|6,1=>3|6,2=>1|6,3=>1|6,4=>1
|2,2=>8|5,2=>8|8,2=>8
|_,_=>0
structure Qmg (B:Nat)(w:World):Prop where
 g:0<B
 bs:Base.b≤B
 tab:∀o k,o<10→k<5→w.cell? ⟨0,o*5+k,none⟩=some (iv (effN o k))
theorem Qmg.below {B:Nat}{w w':World}(h:Qmg B w)(hb:Below B w w'):Qmg B w':=⟨h.g,h.bs,fun o k ho hk=>(hb.cell (p:=⟨0,o*5+k,none⟩) h.g).trans (h.tab o k ho hk)⟩
def Qgp (r:Qw)(w:World)(e:Ending)(w':World):Prop:=∃gu ku cu,e=.returned (trV r gu ku cu)∧Qja w' gu ku cu r∧Below w.heap.size w w'
theorem QFt {w:World}(a b c d:Obj):((((w.alloc a).alloc b).alloc c).alloc d).heap[w.heap.size+1+1+1]? = some d:=by
 have h:=heap_alloc_new (((w.alloc a).alloc b).alloc c) d;rw[World.size_alloc,World.size_alloc,World.size_alloc] at h;exact h
abbrev SMT:TypeId:=94
theorem QEs:∀o,o<10→∀k,k<5→(bits BinOp.and IntKind.i64 (effN o k:Int) 1 != 0)=(decide (1≤k)&&(o==1||o==4||o==6))∧(bits BinOp.and IntKind.i64 (effN o k:Int) 2 != 0)=(decide (k=1)&&(o==1||o==4||o==6)) ∧
  (bits BinOp.and IntKind.i64 (effN o k:Int) 4 != 0)=(decide (k=3)&&decide (o=4))∧(bits BinOp.and IntKind.i64 (effN o k:Int) 8 != 0)=(decide (k=2)&&(o==1||o==2||o==5||o==8)) ∧
  (bits BinOp.and IntKind.i64 (effN o k:Int) 16 != 0)=(decide (k=3∨k=4)&&decide (o=1)):=by decide
theorem Qws {l:List Int}{m:Nat}(h:∀x∈l,0≤x∧x<(m:Int)):0≤l.headD 0∧l.headD 0≤(m:Int):=by
 cases l with
|nil=>simp
|cons x r=>
  have:=h x ZS;simp only[List.headD_cons];omega
theorem set5a {w:World}{b:Nat}{a0 a1 a2 a3 a4:Value}{t:TypeId}{fr:Nat×Nat}(h:w.heap[b]? = some (.cells #[a0,a1,a2,a3,a4] t fr))(x0 x1:Value):
  ((w.setCell ⟨b,0,none⟩ x0).setCell ⟨b,1,none⟩ x1).heap[b]? = some (.cells #[x0,x1,a2,a3,a4] t fr):=by
 simp[World.setCell,Array.getElem?_modify,h]
theorem set5b {w:World}{b:Nat}{a0 a1 a2 a3 a4:Value}{t:TypeId}{fr:Nat×Nat}(h:w.heap[b]? = some (.cells #[a0,a1,a2,a3,a4] t fr))(x0 x1:Value):
  ((w.setCell ⟨b,2,none⟩ x0).setCell ⟨b,3,none⟩ x1).heap[b]? = some (.cells #[a0,a1,x0,x1,a4] t fr):=by
 simp[World.setCell,Array.getElem?_modify,h]
theorem QAj {w:World}{v:Value}{c:Int}(h:QJa w v [c]):∃b o cap,v=.slice (some ⟨b,o,none⟩) 1 cap∧b<w.heap.size∧w.cell? ⟨b,o,none⟩=some (iv c):=by
 obtain⟨a,cc,rfl,-,-,-,hc⟩:=h.cell;obtain⟨b,o,rfl,h1,h2⟩:=hc 0 c rfl;exact⟨b,o,cc,rfl,h1,by simpa using h2⟩
theorem Qhr {α β:Type}{l:List α}{k:Nat}{x:α}(f:α→List β)(h:l[k]? = some x):((l.take (k+1)).map f).flatten=((l.take k).map f).flatten++f x:=by
 rw[List.take_add_one,h];simp
theorem map_take {α β:Type}{l:List α}{k:Nat}{x:α}(f:α→β)(h:l[k]? = some x):(l.take (k+1)).map f=(l.take k).map f++[f x]:=by
 rw[List.take_add_one,h];simp
theorem QGk {α:Type}(f:α→List Int){m:Nat}(hf:∀x,(f x).length≤m):∀l:List α,(l.map f).flatten.length≤l.length*m
|[]=>by simp
|x::r=>by
  have:=QGk f hf r
  have:=hf x
  simp only[List.map_cons,List.flatten_cons,List.length_append,List.length_cons,Nat.add_mul]
  omega
theorem QWb {z n k sz sz2:Nat}{T U:TypeId}{w w':World}{v v2:Value}{xs ys:List Value}(h:w.ownsRow z T sz v n xs)(ho:w.ownsRow z U sz2 v2 k ys)(hg:w.grownBy w' v2.ownBlock)(hne:T≠U)(hbs:Base.b≤z:=by omega):w'.ownsRow z T sz v n xs:=by
 refine⟨h.1,?_⟩;rcases h.2 with hn|⟨g,cap,cur,rfl,hb,hh,rest⟩
 ·exact .inl hn
 ·exact .inr ⟨g,cap,cur,rfl,hb,(Qf.grown hg ho hne).own hh,rest⟩
theorem Qrg (w:World){a b:Value}:Qg (w.alloc (.cells #[a,b] CT)) CT 2 (.slice (some ⟨w.heap.size,0,none⟩) 1 1) [a,b]:=
 Qg.new [a,b] 1 rfl (by unfold maxLen;omega)
theorem QSm (l:List Qra)(v:Int):(QGa l v).length≤l.length:=Qbm _ _
theorem Qxs {B:Nat}{p:List Qo}{kind:Nat}(h:Qxb p kind=0){i:Nat}{n:Qx}{s:QD}(hn:QOd p i n s)(hs:QFd p n=some s)(fv vv u t:Value)(w:World)(ef:Qmg B w)(tz:TzIn B w)(hB:B≤w.heap.size)(hfv:Qqd w fv (QC p kind))(hvv:Qea w vv (QN p))(hu:Qea w u s.uses)(ht:Qea w t s.targets):
  Calls Tryz.prog 48 #[.agg #[iv kind,fv,vv],iv i,.agg #[iv s.op,sv s.dfn,u,t]] w (Qgp (Qlb (rawT (QN p) (QC p kind) kind i s) (QC p kind).length) w):=by
 have hfz:=Qkb h;obtain⟨on,hon,ho10⟩:∃o:Nat,s.op=(o:Int)∧o<10:=by
  have h1:=QPl hn.stmtB;exact⟨s.op.toNat,by omega,by omega⟩
 have hk4:kind<5:=by omega
 have hm:=hfz.2.2.2.2;have HN:=Zh hn;have HS:=Zh hs;have HH:=Zh h;have HON:=Zh hon;have FV:=Zh hfv;have VV:=Zh hvv;have UU:=Zh hu;obtain⟨fa,fc,rfl,-,-,-,-⟩:=hfv.cell;obtain⟨va,vc,rfl,-,-⟩:=hvv.cell;obtain⟨ua,uc,rfl,hul,huc⟩:=hu.cell;obtain⟨ta,tc,rfl,-,-⟩:=ht.cell;have HUC:=Zh huc;obtain⟨m,hml⟩:=Ze ((QC p kind).length);obtain⟨vn,hvn⟩:=Ze ((QN p).length);obtain⟨un,hun⟩:=Ze s.uses.length;obtain⟨tn,htn⟩:=Ze s.targets.length;rw[hml] at FV hm;rw[hvn] at VV;rw[hun] at UU hul;rw[hml,hvn,hun,htn,hon];have HML:=Zh hml;have HUN:=Zh hun;obtain⟨z,hz⟩:=Ze w.heap.size;obtain⟨W,hW⟩:=Ze ((((w.alloc (.cells #[iv kind,.slice fa m fc,.slice va vn vc] TBT)).alloc (.cells #[iv i] 3)).alloc (.cells #[iv on,sv s.dfn,.slice ua un uc,.slice ta tn tc] SMT)).alloc (.cells #[iv 0,.slice none 0 0,iv 0,.slice none 0 0,.slice none 0 0] FNA));have HZ:=Zh hz;have HWW:=Zh hW;have BW:=Zh (show Below z w W by rw[←hW,←hz];exact(((Zb).alloc ZS _).alloc (by simp;omega) _).alloc (by simp;omega) _);have HT:=Zh (show W.heap[z]? = some (.cells #[iv kind,.slice fa m fc,.slice va vn vc] TBT (0,0)) by rw[←hW,←hz,Below.heap_alloc _ _ _ (by simp;omega),Below.heap_alloc _ _ _ (by simp;omega),Below.heap_alloc _ _ _ ZS];exact heap_alloc_new _ _);have HI:=Zh (show W.heap[z+1]? = some (.cells #[iv i] 3 (0,0)) by rw[←hW,←hz,Below.heap_alloc _ _ _ ZS,Below.heap_alloc _ _ _ ZS];exact Qda _ _);have HSB:=Zh (show W.heap[z+1+1]? = some (.cells #[iv on,sv s.dfn,.slice ua un uc,.slice ta tn tc] SMT (0,0)) by rw[←hW,←hz,Below.heap_alloc _ _ _ ZS];exact Qll _ _ _);have HRB:=Zh (show W.heap[z+1+1+1]? = some (.cells #[iv 0,.slice none 0 0,iv 0,.slice none 0 0,.slice none 0 0] FNA (0,0)) by rw[←hW,←hz];exact QFt _ _ _ _);have HSZ:=Zh (show W.heap.size=z+4 by rw[←hW,←hz];simp);have HEF:=Zh (ef.below (BW.o.mono ZO));obtain⟨e,hee⟩:=Ze (effN on kind);have HE:=Zh hee;have ge:=HEF.o.tab on kind ho10 hk4;rw[hee] at ge;obtain⟨fb1,fb2,fb3,fb4,fb5⟩:=QEs on ho10 kind hk4;rw[hee] at fb1 fb2 fb3 fb4 fb5;obtain⟨b1,hb1⟩:=Ze ((decide (1≤kind)&&(on==1||on==4||on==6)));obtain⟨b2,hb2⟩:=Ze ((decide (kind=1)&&(on==1||on==4||on==6)));obtain⟨b3,hb3⟩:=Ze ((decide (kind=3)&&decide (on=4)));obtain⟨b4,hb4⟩:=Ze ((decide (kind=2)&&(on==1||on==2||on==5||on==8)));obtain⟨b5,hb5⟩:=Ze ((decide (kind=3∨kind=4)&&decide (on=1)));rw[hb1] at fb1;rw[hb2] at fb2;rw[hb3] at fb3;rw[hb4] at fb4;rw[hb5] at fb5;have hdfn:dfnB s.op=(on==1||on==4||on==6):=by
  unfold dfnB;rw[hon,Bool.eq_iff_iff];simp only[Bool.or_eq_true,beq_iff_eq];omega
 have huse:useB s.op=(on==1||on==2||on==5||on==8):=by
  unfold useB;rw[hon,Bool.eq_iff_iff];simp only[Bool.or_eq_true,beq_iff_eq];omega
 obtain⟨F,hF⟩:=Ze (QC p kind);obtain⟨VS,hVS⟩:=Ze (QN p);obtain⟨D,hD⟩:=Ze (QGa F (idxI VS s.dfn));obtain⟨oi,hoi⟩:=Ze (ownF F i);have HKL:=Zh (show QQh (QN p) (QC p kind) s=(if b1=true then D else []) by
  unfold QQh;rw[hF,hVS,hD,hdfn,←hb1];have e1:(on==1||on==4||on==6)=(decide (1≤kind)&&(on==1||on==4||on==6)):=by rw[show decide (1≤kind)=true by simp;omega];rfl
  rw[←e1])
 have HGL:=Zh (show Qgg (QN p) (QC p kind) kind i s=(if b2=true then [oi] else [])++((if b3=true then D else [])++(if b4=true then (s.uses.map fun u=>QGa F (idxI VS u)).flatten else [])) by
  unfold Qgg;rw[hF,hVS,hD,hoi,hdfn,huse,hon,←hb2,←hb3,←hb4];have e1:((kind:Int)=1∧(on==1||on==4||on==6)=true)↔(decide (kind=1)&&(on==1||on==4||on==6))=true:=by
   rw[Bool.and_eq_true,decide_eq_true_eq];constructor <;>(rintro⟨h1,h2⟩;exact⟨by omega,h2⟩)
  have e3:((kind:Int)=3∧(on:Int)=4)↔(decide (kind=3)&&decide (on=4))=true:=by simp only[Bool.and_eq_true,decide_eq_true_eq];omega
  have e4:((kind:Int)=2∧(on==1||on==2||on==5||on==8)=true)↔(decide (kind=2)&&(on==1||on==2||on==5||on==8))=true:=by
   rw[Bool.and_eq_true,decide_eq_true_eq];constructor <;>(rintro⟨h1,h2⟩;exact⟨by omega,h2⟩)
  simp only[e1,e3,e4])
 have HPL:=Zh (show QTe (QN p) (QC p kind) kind s=(if b5=true then s.uses.map fun u=>((QGa F (idxI VS u)).headD 0,D.headD 0) else []) by
  unfold QTe;rw[hF,hVS,hD,hon,←hb5];have e5:(((kind:Int)=3∨(kind:Int)=4)∧(on:Int)=1)↔(decide (kind=3∨kind=4)&&decide (on=1))=true:=by simp only[Bool.and_eq_true,decide_eq_true_eq];omega
  simp only[e5])
 have HONE:=Zh (show b5=true→(∃d,D=[d])∧∀x∈s.uses,∃c,QGa F (idxI VS x)=[c] from fun hb=>by
  rw[hb] at hb5;simp only[Bool.and_eq_true,decide_eq_true_eq] at hb5;have hk1:((kind:Nat):Int)≠1:=by omega
  rw[←hD,←hF,←hVS];exact⟨⟨_,Qac h hk1 (hn.dfn (by rw[hon,hb5.2];rfl))⟩,fun x hx=>⟨_,Qac h hk1 (hn.uses x hx)⟩⟩)
 have HFL:=Zh (show ∀v,(QGa F v).length≤m from fun v=>by rw[←hF,←hml];exact QSm _ _);have hDL:D.length≤256:=by rw[←hD];exact Nat.le_trans (HFL.o _) hm
 have KF:=Zh (show ∀x wx,Below w.heap.size w wx→Calls Tryz.prog 109 #[.agg #[iv kind,.slice fa m fc,.slice va vn vc],sv x] wx (QWk (QGa F (idxI VS x)) wx) from fun x wx b=>by
  rw[←hF,←hVS];exact QJt kind _ _ _ _ x wx (FV.o.below b) (Qg.same VV.o (Qf.below b)) (by rw[hml];omega) (by have:=b.size;have:=tz.bs;omega))
 have KD:=Zh (show ∀wx,Below w.heap.size w wx→Calls Tryz.prog 109 #[.agg #[iv kind,.slice fa m fc,.slice va vn vc],sv s.dfn] wx (QWk D wx) from fun wx b=>by
  rw[←hD];exact KF.o s.dfn wx b)
 have KO:=Zh (show ∀wx,Below W.heap.size W wx→Calls Tryz.prog 110 #[.slice fa m fc,.func (.func 111) #[] #[.pointer (some ⟨z+1,0,none⟩)]] wx (IntQ oi wx) from fun wx b=>by
  rw[←hoi,←hF];have h1:=Qc HI.o b (Qb HI.o);exact QTr _ _ (z+1) i wx (FV.o.below (HZ.o▸(BW.o.trans (b.mono (by have:=HSZ.o;omega))))) (by have:=(Qa h1).1 0;simpa using this) (by have:=Qb h1;omega))
 have TZ:=Zh tz;have hbz:Base.b≤z:=by have:=tz.bs;omega
 have hWz:W.heap.size=z+4:=HSZ.o;clear hn hs h hon hfv hvv hu ht huc hml hvn hun htn hfz hW ef hee tz hb1 hb2 hb3 hb4 hb5 hdfn huse hF hVS hD hoi;obtain⟨x0,x1,x2⟩:=QVa HT.o;obtain⟨s0,s1,s2,s3⟩:=Qt HSB.o;go_enter Tryz.func48,Tryz.ntmps48;go_upto_region 1 with(fail)
 rw[show(((w.alloc (.cells #[iv kind,.slice fa m fc,.slice va vn vc] TBT)).alloc (.cells #[iv i] 3)).alloc (.cells #[iv on,sv s.dfn,.slice ua un uc,.slice ta tn tc] SMT)).alloc (.cells #[iv 0,.slice none 0 0,iv 0,.slice none 0 0,.slice none 0 0] FNA)=W from HWW.o]
 try rw[hz]
 go_quiet (fail);obtain⟨V,hV⟩:=Ze (W.drewN nq);rw[hV];have HBV:=Zh (show Below W.heap.size W V by rw[←hV];exact Qp (Below.refl _ _) _);clear hV ge x0 x1 x2 s0 s1 s2 s3;have HCEL:=Zh (show ∀wx,Below W.heap.size W wx→(wx.heap[z]? = some (.cells #[iv kind,.slice fa m fc,.slice va vn vc] TBT (0,0))∧wx.heap[z+1+1]? = some (.cells #[iv on,sv s.dfn,.slice ua un uc,.slice ta tn tc] SMT (0,0))∧wx.heap[z+1+1+1]? = some (.cells #[iv 0,.slice none 0 0,iv 0,.slice none 0 0,.slice none 0 0] FNA (0,0))) from fun wx b=>
  ⟨Qc HT.o b (Qb HT.o),Qc HSB.o b (Qb HSB.o),Qc HRB.o b (Qb HRB.o)⟩)
 obtain⟨x0,x1,x2⟩:=QVa (HCEL.o V HBV.o).1;go_upto_if 29 with(fail)
 clear x0 x1 x2;have HZW:=Zh (show ∀wx,Below W.heap.size W wx→Below w.heap.size w wx from fun wx b=>HZ.o▸(BW.o.trans (b.mono ZO)));go_cut [10] from 30 to 33 (fun s10 wx=>∃ka kn kc,s10=.slice ka kn kc∧Hid (Below W.heap.size W wx)∧Hid (QJa wx (.slice ka kn kc) (if b1=true then D else [])))
 case first=>
  cases b1 with
 |true=>
   obtain⟨c1,c2,-⟩:=HCEL.o V HBV.o;obtain⟨x0,x1,x2⟩:=QVa c1;obtain⟨s0,s1,s2,s3⟩:=Qt c2;clear c1 c2;go_wp2_with fail;refine(KD.o V (HZW.o V HBV.o)).mono ?_;rintro e w1 ⟨kv,rfl,hk,b1'⟩;have HB1:=Zh (HBV.o.trans (b1'.mono HBV.o.size));obtain⟨ka,kc,rfl,-⟩:=hk.cell;have HK:=Zh hk;clear hk b1';go_wp2;go_meet
   case rel=>exact⟨_,_,_,rfl,HB1.o,HK.o⟩
 |false=>
   go_wp2;go_meet
   case rel=>exact⟨none,0,0,rfl,HBV.o,by unfold Hid;simpa using QJa.nil⟩
 case rest=>
  obtain⟨ka,kn,kc,rfl,HB1,HK1⟩:=hcut;obtain⟨y,hy⟩:=Ze wc.heap.size;obtain⟨wk,rfl⟩:∃x:World,x=wc:=⟨_,rfl⟩;have hyz:z+4≤y:=by have:=HB1.o.size;omega
  have HY:=Zh hy;have HYW:=Zh (show ∀wx,Below y wk wx→Below W.heap.size W wx from fun wx b=>HB1.o.trans (b.mono (by have:=HB1.o.size;omega)));clear hy HBV;go_upto_if 36 with(fail)
  go_cut [9] from 37 to 43 (fun s9 wx=>∃ga gn gc,s9=.slice ga gn gc∧Hid (Below y wk wx)∧Hid (OwnI y wx (.slice ga gn gc) (if b2=true then [oi] else []))∧gn=(if b2=true then [oi] else []).length)
  case first=>
   have hBk:Below y wk wk:=Below.refl _ _
   cases b2 with
  |true=>
    obtain⟨c1,c2,-⟩:=HCEL.o wk HB1.o;obtain⟨x0,x1,x2⟩:=QVa c1;clear c1 c2;go_wp2_with fail;refine(KO.o wk HB1.o).mono ?_;rintro e w1 ⟨rfl,b1'⟩;have HB2:=Zh (show Below y wk w1 from HY.o▸b1');have hyw:y≤w1.heap.size:=by have:=b1'.size;have:=HY.o;omega
    have PUSH:=Zh (show ∀g cap w',w'.ownsRow y 3 1 (.slice (some ⟨g,0,none⟩) (0+1) cap) (0+1) ([]++[iv oi])→w1.grownBy w' (Value.slice none 0 0).ownBlock →
      Below y wk w'∧OwnI y w' (.slice (some ⟨g,0,none⟩) (0+1) cap) [oi] from fun g cap w' ho hg=>
     ⟨HB2.o.trans (Below.of_grown hg (World.ownsRow_nil w1 y 3 1) hyw),ho⟩)
    clear b1' x0 x1 x2;go_wp2_with (at_builtin;refine QL [iv oi] rfl _ _ _ rfl y 3 _ 1 8 Tryz.underlying22 QRa rfl ZO _ _ _ (World.ownsRow_nil w1 y 3 1) rfl rfl rfl rfl (by unfold maxLen;omega) ZO hyw ?_;intro g cap w9 ho hg hzg _;have HP9:=Zh (PUSH.o g cap w9 ho hg);clear ho hg hzg);go_meet
    case rel=>exact⟨_,_,_,rfl,HP9.o.1,HP9.o.2,rfl⟩
  |false=>
    go_wp2;go_meet
    case rel=>exact⟨none,0,0,rfl,hBk,by unfold Hid;simpa using OwnI.nil,rfl⟩
  case rest=>
   obtain⟨ga,gn,gc,rfl,HB2,HG2,hgn⟩:=hcut;obtain⟨G1,hG1⟩:=Ze ((if b2=true then [oi] else []));have hG1l:G1.length≤1:=by rw[←hG1];split <;> simp
   rw[hG1] at HG2 hgn HGL;subst hgn;obtain⟨w2,rfl⟩:∃x:World,x=wc:=⟨_,rfl⟩;clear hG1;go_upto_if 46 with(fail)
   go_cut [9] from 47 to 52 (fun s9 wx=>∃ga gn gc,s9=.slice ga gn gc∧Hid (Below y wk wx)∧Hid (OwnI y wx (.slice ga gn gc) (G1++(if b3=true then D else [])))∧gn=(G1++(if b3=true then D else [])).length)
   case first=>
    cases b3 with
   |true=>
     obtain⟨c1,c2,-⟩:=HCEL.o w2 (HYW.o _ HB2.o);obtain⟨x0,x1,x2⟩:=QVa c1;obtain⟨s0,s1,s2,s3⟩:=Qt c2;clear c1 c2;go_wp2_with (first
     |(go_at_call 109;refine(KD.o w2 (HZW.o _ (HYW.o _ HB2.o))).mono ?_;rintro e w3 ⟨kv,rfl,hk,b1'⟩
       have HB3:=Zh (HB2.o.trans (b1'.mono (by have:=HB2.o.size;have:=HY.o;omega)));have HO3:=Zh (HG2.o.below b1');obtain⟨da,dc,rfl,-⟩:=hk.cell;have HK:=Zh hk;have hyw:y≤w3.heap.size:=by have:=HB3.o.size;have:=HY.o;omega
       have PUSH:=Zh (show ∀g c w',w'.ownsRow y 3 1 (.slice g (G1.length+D.length) c) (G1.length+D.length) (G1.map iv++D.map iv)→w3.grownBy w' (Value.slice ga G1.length gc).ownBlock →
         Below y wk w'∧OwnI y w' (.slice g (G1.length+D.length) c) (G1++D) from fun g c w' ho hg=>
        ⟨HB3.o.trans (Below.of_grown hg HO3.o hyw),by unfold OwnI;rw[List.length_append,List.map_append];exact ho⟩)
       clear hk b1' x0 x1 x2 s0 s1 s2 s3)
     |(at_builtin;refine wpList_append_sl rfl _ _ 22 rfl y 3 _ 1 8 Tryz.underlying22 QRa rfl ZD _ _ _ HO3.o rfl _ D.length (D.map iv) rfl HK.o ZS (by simp[Value.oneCell']) (by unfold maxLen;omega) ZO hyw ?_;intro g c w9 ho hg;have HP9:=Zh (PUSH.o g c w9 ho hg);clear ho hg))
     go_meet
     case rel=>exact⟨_,_,_,rfl,HP9.o.1,by rw[if_pos ZS];exact HP9.o.2,by rw[if_pos ZS,List.length_append]⟩
   |false=>
     go_wp2;go_meet
     case rel=>exact⟨_,_,_,rfl,HB2.o,by rw[if_neg ZS,List.append_nil];exact HG2.o,by rw[if_neg ZS,List.append_nil]⟩
   case rest=>
    obtain⟨ga,gn,gc,rfl,HB3,HG3,hgn⟩:=hcut;obtain⟨G2,hG2⟩:=Ze (G1++(if b3=true then D else []));have hG2l:G2.length≤300:=by
     rw[←hG2,List.length_append]
     split
     ·omega
     ·rw[List.length_nil];omega
    rw[hG2] at HG3 hgn;rw[←List.append_assoc,hG2] at HGL;subst hgn;obtain⟨w3,rfl⟩:∃x:World,x=wc:=⟨_,rfl⟩;obtain⟨UF,hUF⟩:∃f:Str→List Int,(fun u=>QGa F (idxI VS u))=f:=⟨_,rfl⟩;have HUF:=Zh hUF;have hUFx:∀x,QGa F (idxI VS x)=UF x:=fun x=>congrFun hUF x
    have KU:=Zh (show ∀x wx,Below w.heap.size w wx→Calls Tryz.prog 109 #[.agg #[iv kind,.slice fa m fc,.slice va vn vc],sv x] wx (QWk (UF x) wx) from fun x wx b=>by rw[←hUFx];exact KF.o x wx b);simp only[hUFx] at HGL HPL HONE HFL;have HUL:=Zh (show ∀x,(UF x).length≤256 from fun x=>by rw[←hUFx];exact Nat.le_trans (HFL.o _) hm);clear hG2 hUF hUFx;obtain⟨c1,c2,-⟩:=HCEL.o w3 (HYW.o _ HB3.o);obtain⟨s0,s1,s2,s3⟩:=Qt c2;clear c1 c2;go_wp2;clear s0 s1 s2 s3;go_loopw [9,11,56] (fun s9 s11 q wr=>∃k:Nat,k≤un∧q=.int .i64 k∧Hid (Below y wk wr)∧Hid (OwnI y wr s9 (G2++(if b4=true then ((s.uses.take k).map UF).flatten else [])))∧Hid (Qya y wr s11 (if b5=true then (s.uses.take k).map fun u=>((UF u).headD 0,D.headD 0) else []))) (fun _ _ q _=>un-(intOf q).toNat)
    case atStart=>exact⟨0,Nat.zero_le _,rfl,HB3.o,by unfold Hid;simpa using HG3.o,by unfold Hid;simpa using Qya.nil⟩
    case round=>
     rename_i s9 s11 _;obtain⟨k,hk,rfl,HBr,HGr,HPr⟩:=hrel;obtain⟨ra,rc,rfl,-⟩:=HGr.o.shape;obtain⟨pa,pc,rfl,-⟩:=QXa HPr.o;obtain⟨GR,hGR⟩:=Ze (G2++(if b4=true then ((s.uses.take k).map UF).flatten else []));obtain⟨PR,hPR⟩:=Ze ((if b5=true then (s.uses.take k).map fun u=>((UF u).headD 0,D.headD 0) else []));have hun4:un≤4:=by rw[←HUN.o];exact(Qje HN.o.stmtB).2
     have hGRl:GR.length≤300+4*256:=by
      rw[←hGR,List.length_append]
      split
      ·have h1:=QGk UF HUL.o (s.uses.take k);have h2:(s.uses.take k).length≤4:=by rw[List.length_take];omega
       have h3:(s.uses.take k).length*256≤4*256:=Nat.mul_le_mul_right _ h2;omega
      ·simp;omega
     have hPRl:PR.length≤4:=by
      rw[←hPR]
      split
      ·rw[List.length_map,List.length_take];omega
      ·simp
     rw[hGR] at HGr;rw[hPR] at HPr;rw[hGR,hPR];by_cases hlt:k<un
     ·obtain⟨x,hx⟩:∃x,s.uses[k]? = some x:=⟨_,List.getElem?_eq_getElem (by rw[HUN.o];exact hlt)⟩;obtain⟨xb,xo,rfl,hxb,g1⟩:=HUC.o k x hx;have g1:=((HZW.o _ (HYW.o _ HBr.o)).cell (p:=⟨xb,xo+k,none⟩) hxb).trans g1;have HGS:=Zh (show G2++(if b4=true then ((s.uses.take (k+1)).map UF).flatten else [])=GR++(if b4=true then UF x else []) by
       rw[←hGR]
       split
       ·rw[Qhr UF hx,List.append_assoc]
       ·simp)
      have HPS:=Zh (show(if b5=true then (s.uses.take (k+1)).map fun u=>((UF u).headD 0,D.headD 0) else [])=PR++(if b5=true then [((UF x).headD 0,D.headD 0)] else []) by
       rw[←hPR]
       split
       ·rw[map_take _ hx]
       ·simp)
      have HX:=Zh (show x∈s.uses from List.mem_of_getElem? hx);clear hGR hPR hx;go_upto_if 62 with(fail)
      clear g1;go_cut [9] from 63 to 67 (fun s9 wx=>∃ga gc,s9=.slice ga (GR++(if b4=true then UF x else [])).length gc∧Hid (Below y wk wx)∧Hid (OwnI y wx (.slice ga (GR++(if b4=true then UF x else [])).length gc) (GR++(if b4=true then UF x else [])))∧Hid (Qya y wx (.slice pa PR.length pc) PR))
      case first=>
       cases b4 with
      |true=>
        obtain⟨c1,c2,-⟩:=HCEL.o wr (HYW.o _ HBr.o);obtain⟨x0,x1,x2⟩:=QVa c1;clear c1 c2;go_wp2_with (first
        |(go_at_call 109;refine(KU.o x wr (HZW.o _ (HYW.o _ HBr.o))).mono ?_;rintro e w4 ⟨kv,rfl,hk,b1'⟩
          have HB4:=Zh (HBr.o.trans (b1'.mono (by have:=HBr.o.size;have:=HY.o;omega)));have HO4:=Zh (HGr.o.below b1');have HP4:=Zh (HPr.o.below b1');obtain⟨da,dc,rfl,-⟩:=hk.cell;have HK:=Zh hk;have hyw:y≤w4.heap.size:=by have:=HB4.o.size;have:=HY.o;omega
          have hUX:=HUL.o x;have PUSH:=Zh (show ∀g c w',w'.ownsRow y 3 1 (.slice g (GR.length+(UF x).length) c) (GR.length+(UF x).length) (GR.map iv++(UF x).map iv)→w4.grownBy w' (Value.slice ra GR.length rc).ownBlock →
            Below y wk w'∧OwnI y w' (.slice g (GR.length+(UF x).length) c) (GR++UF x)∧Qya y w' (.slice pa PR.length pc) PR from fun g c w' ho hg=>
           ⟨HB4.o.trans (Below.of_grown hg HO4.o hyw),by unfold OwnI;rw[List.length_append,List.map_append];exact ho,QWb HP4.o HO4.o hg ZD⟩)
          clear hk b1' x0 x1 x2)
        |(at_builtin;refine wpList_append_sl rfl _ _ 22 rfl y 3 _ 1 8 Tryz.underlying22 QRa rfl ZD _ _ _ HO4.o rfl _ (UF x).length ((UF x).map iv) rfl HK.o ZS (by simp[Value.oneCell']) (by unfold maxLen;omega) ZO hyw ?_;intro g c w9 ho hg;have HP9:=Zh (PUSH.o g c w9 ho hg);clear ho hg))
        go_meet
        case rel=>exact⟨_,_,by rw[if_pos ZS,List.length_append],HP9.o.1,by rw[if_pos ZS,List.length_append];exact HP9.o.2.1,HP9.o.2.2⟩
      |false=>
        go_wp2;go_meet
        case rel=>exact⟨ra,rc,by rw[if_neg ZS,List.append_nil],HBr.o,by rw[if_neg ZS,List.append_nil];exact HGr.o,HPr.o⟩
      case rest=>
       obtain⟨ga,gc,rfl,HB4,HG4,HP4⟩:=hcut;obtain⟨w4,rfl⟩:∃x:World,x=wc:=⟨_,rfl⟩;obtain⟨G4,hG4⟩:=Ze ((GR++(if b4=true then UF x else [])).length);rw[hG4] at HG4 ⊢;rw[←HGS.o] at HG4;clear HGr HPr HBr hG4;go_upto_if 70 with(fail)
       cases b5 with
      |false=>
        have HP5:=Zh (show Qya y w4 (.slice pa PR.length pc) (if false=true then (s.uses.take (k+1)).map fun u=>((UF u).headD 0,D.headD 0) else []) by rw[HPS.o];simpa using HP4.o);go_wp2;go_roundw
        case rel=>exact⟨k+1,by omega,by go_num,HB4.o,HG4,HP5⟩
        case measure=>simp[intOf];omega
      |true=>
        obtain⟨⟨d,hd⟩,hu⟩:=HONE.o rfl;obtain⟨c,hc⟩:=hu x HX.o;have HDD:=Zh hd;have KD2:=Zh (hd▸KD.o);have KU2:=Zh (hc▸KU.o x);have HPS2:=Zh (show(if true=true then (s.uses.take (k+1)).map fun u=>((UF u).headD 0,D.headD 0) else [])=PR++[((c:Int),d)] by rw[HPS.o,hc,hd];rfl);clear hc hd hu;go_upto_region 17 with(fail)
        have HSS:=Zh (show ∀w',Below y wk w'→(w'.cell? ⟨z,0,none⟩=some (iv kind)∧w'.cell? ⟨z,1,none⟩=some (.slice fa m fc)∧w'.cell? ⟨z,2,none⟩=some (.slice va vn vc)∧w'.cell? ⟨z+1+1,1,none⟩=some (sv s.dfn)) from fun w' hb=>by
         obtain⟨c1,c2,-⟩:=HCEL.o w' (HYW.o _ hb);obtain⟨a0,a1,a2⟩:=QVa c1;obtain⟨-,a3,-,-⟩:=Qt c2;exact⟨a0,a1,a2,a3⟩)
        have HBD:=Zh (show Below y wk (w4.drewN 1) from Qp HB4.o 1);have HGD:=Zh (show OwnI y (w4.drewN 1) (.slice ga G4 gc) (G2++(if b4=true then ((s.uses.take (k+1)).map UF).flatten else [])) from HG4.o.below (Qp (Below.refl _ _) 1));have HPD:=Zh (show Qya y (w4.drewN 1) (.slice pa PR.length pc) PR from HP4.o.below (Qp (Below.refl _ _) 1));refine Zr (fun w'=>w'.cell? ⟨z,0,none⟩=some (iv kind)∧w'.cell? ⟨z,1,none⟩=some (.slice fa m fc)∧w'.cell? ⟨z,2,none⟩=some (.slice va vn vc)∧w'.cell? ⟨z+1+1,1,none⟩=some (sv s.dfn)) 16 (HSS.o (w4.drewN 1) HBD.o) fun hS0=>?_
        refine Yn 0 71 ?_;refine Yn 1 72 ?_;refine Yn 2 73 ?_;refine Yn 6 77 ?_;refine Yn 7 78 ?_;refine Yn 8 79 ?_;refine QP 3 (some 74) 109 #[.agg #[iv kind,.slice fa m fc,.slice va vn vc],sv x] rfl ZK ZK ZK rfl ?_;refine(KU2.o (w4.drewN 1) (HZW.o _ (HYW.o _ HBD.o))).mono ?_;rintro e m1 ⟨cv,rfl,hcv,b1'⟩;obtain⟨cb,cof,ccap,rfl,hcb,c0⟩:=QAj hcv;have HC1:=Zh (show Below y wk m1∧OwnI y m1 (.slice ga G4 gc) (G2++(if b4=true then ((s.uses.take (k+1)).map UF).flatten else []))∧Qya y m1 (.slice pa PR.length pc) PR from⟨HBD.o.trans (b1'.mono (by have:=HBD.o.size;have:=HY.o;omega)),HGD.o.below b1',HPD.o.below b1'⟩);clear hS0 hcv b1';have hS0:=HSS.o m1 HC1.o.1;refine⟨_,rfl,fun _=>hS0,?_⟩;refine Yn 4 75 ?_;refine Qh (rs:=[5,9]) ZK ZD ?_;intro i hi;have hi2:i=5∨i=9:=by simpa using hi
        clear hi;rcases hi2 with rfl|rfl
        ·refine Qs 5 (some 76) (iv c) m1 rfl ZK ?rwx1 rfl ?_
         case rwx1=>go_simp
         refine⟨fun _=>hS0,?_⟩;refine QP 9 (some 80) 109 #[.agg #[iv kind,.slice fa m fc,.slice va vn vc],sv s.dfn] rfl ZK ZK ZK rfl ?_;refine(KD2.o m1 (HZW.o _ (HYW.o _ HC1.o.1))).mono ?_;rintro e m2 ⟨dv,rfl,hdv,b2'⟩;obtain⟨db,dof,dcap,rfl,hdb,d0⟩:=QAj hdv;have HC2:=Zh (show Below y wk m2∧OwnI y m2 (.slice ga G4 gc) (G2++(if b4=true then ((s.uses.take (k+1)).map UF).flatten else []))∧Qya y m2 (.slice pa PR.length pc) PR from⟨HC1.o.1.trans (b2'.mono (by have:=HC1.o.1.size;have:=HY.o;omega)),HC1.o.2.1.below b2',HC1.o.2.2.below b2'⟩);have e0:m2.cell? ⟨cb,cof,none⟩=some (iv c):=(b2'.cell (p:=⟨cb,cof,none⟩) hcb).trans c0;clear hS0 hdv b2';have hS0:=HSS.o m2 HC2.o.1;refine⟨_,rfl,fun _=>hS0,?_⟩;refine Yn 10 81 ?_;refine QW 11 (some 82) (iv d) m2 rfl ZK ZK ?rvx3 rfl (fun _=>hS0) ?_
         case rvx3=>go_simp
         refine Yn 12 83 ?_;have hyw:y≤m2.heap.size:=by have:=HC2.o.1.size;have:=HY.o;omega
         have HAL:=Zh (show Below m2.heap.size m2 (m2.alloc (.cells #[iv c,iv d] CT)) from Zb);have HC3:=Zh (show Below y wk (m2.alloc (.cells #[iv c,iv d] CT))∧OwnI y (m2.alloc (.cells #[iv c,iv d] CT)) (.slice ga G4 gc) (G2++(if b4=true then ((s.uses.take (k+1)).map UF).flatten else []))∧Qya y (m2.alloc (.cells #[iv c,iv d] CT)) (.slice pa PR.length pc) PR from⟨HC2.o.1.trans (HAL.o.mono hyw),HC2.o.2.1.below HAL.o,HC2.o.2.2.below HAL.o⟩);have HNW:=Zh (show Qg (m2.alloc (.cells #[iv c,iv d] CT)) CT 2 (.slice (some ⟨m2.heap.size,0,none⟩) 1 1) [iv c,iv d] from Qrg m2);clear hS0;have hS0:=HSS.o _ HC3.o.1;refine QW 13 (some 84) (.slice (some ⟨m2.heap.size,0,none⟩) 1 1) (m2.alloc (.cells #[iv c,iv d] CT)) rfl ZK ZK ?rvx5 rfl (fun _=>hS0) ?_
         case rvx5=>go_simp
         refine QRe 14 (some 85) rfl ZK ZK rfl (.tmp 71) (.tmp 84) 53 rfl y CT _ 2 16 Tryz.underlying53 Qbf rfl ZD (.slice pa PR.length pc) PR.length (QHa PR) HC3.o.2.2 ZK _ 1 [iv c,iv d] ZK HNW.o rfl rfl (by unfold maxLen;omega) ZO (by simp;omega) ?_;intro g cp w9 ho hg;have HB9:=Zh (HC3.o.1.trans (Below.of_grown hg HC3.o.2.2 (by simp;omega)):Below y wk w9);have HG9:=Zh (show OwnI y w9 (.slice ga G4 gc) (G2++(if b4=true then ((s.uses.take (k+1)).map UF).flatten else [])) from QWb HC3.o.2.1 HC3.o.2.2 hg ZD);have HP9:=Zh (show Qya y w9 (.slice g (PR.length+1) cp) (if true=true then (s.uses.take (k+1)).map fun u=>((UF u).headD 0,D.headD 0) else []) by
          rw[HPS2.o];unfold Qya;rw[QYf,List.length_append];exact ho)
         clear hS0 ho hg;have hS0:=HSS.o _ HB9.o;refine⟨fun _=>hS0,?_⟩;refine Yn 15 11 ?_;refine Qu ZK ?_ _;generalize hA:Act.put _ _ _=A0;simp only[Qba,Qaa,Zu,Zv,Zw] at hA;subst hA;clear c0 d0 hS0;go_wp2;go_roundw
         case rel=>exact⟨k+1,by omega,by go_num,HB9.o,HG9,HP9⟩
         case measure=>simp[intOf];omega
        ·refine Qla 9 (some 80) 109 #[.agg #[iv kind,.slice fa m fc,.slice va vn vc],sv s.dfn] rfl ZK ZK rfl ?_;refine(KD2.o m1 (HZW.o _ (HYW.o _ HC1.o.1))).mono ?_;rintro e m2 ⟨dv,rfl,hdv,b2'⟩;obtain⟨db,dof,dcap,rfl,hdb,d0⟩:=QAj hdv;have HC2:=Zh (show Below y wk m2∧OwnI y m2 (.slice ga G4 gc) (G2++(if b4=true then ((s.uses.take (k+1)).map UF).flatten else []))∧Qya y m2 (.slice pa PR.length pc) PR from⟨HC1.o.1.trans (b2'.mono (by have:=HC1.o.1.size;have:=HY.o;omega)),HC1.o.2.1.below b2',HC1.o.2.2.below b2'⟩);have e0:m2.cell? ⟨cb,cof,none⟩=some (iv c):=(b2'.cell (p:=⟨cb,cof,none⟩) hcb).trans c0;clear hS0 hdv b2';have hS0:=HSS.o m2 HC2.o.1;refine⟨_,rfl,fun _=>hS0,?_⟩;refine Yn 10 81 ?_;refine Qh (rs:=[5,11]) ZK ZD ?_;intro i hi;have hi2:i=5∨i=11:=by simpa using hi
         clear hi;rcases hi2 with rfl|rfl
         ·refine Qs 5 (some 76) (iv c) m2 rfl ZK ?rwx8 rfl ?_
          case rwx8=>go_simp
          refine⟨fun _=>hS0,?_⟩;refine QW 11 (some 82) (iv d) m2 rfl ZK ZK ?rvx9 rfl (fun _=>hS0) ?_
          case rvx9=>go_simp
          refine Yn 12 83 ?_;have hyw:y≤m2.heap.size:=by have:=HC2.o.1.size;have:=HY.o;omega
          have HAL:=Zh (show Below m2.heap.size m2 (m2.alloc (.cells #[iv c,iv d] CT)) from Zb);have HC3:=Zh (show Below y wk (m2.alloc (.cells #[iv c,iv d] CT))∧OwnI y (m2.alloc (.cells #[iv c,iv d] CT)) (.slice ga G4 gc) (G2++(if b4=true then ((s.uses.take (k+1)).map UF).flatten else []))∧Qya y (m2.alloc (.cells #[iv c,iv d] CT)) (.slice pa PR.length pc) PR from⟨HC2.o.1.trans (HAL.o.mono hyw),HC2.o.2.1.below HAL.o,HC2.o.2.2.below HAL.o⟩);have HNW:=Zh (show Qg (m2.alloc (.cells #[iv c,iv d] CT)) CT 2 (.slice (some ⟨m2.heap.size,0,none⟩) 1 1) [iv c,iv d] from Qrg m2);clear hS0;have hS0:=HSS.o _ HC3.o.1;refine QW 13 (some 84) (.slice (some ⟨m2.heap.size,0,none⟩) 1 1) (m2.alloc (.cells #[iv c,iv d] CT)) rfl ZK ZK ?rvx11 rfl (fun _=>hS0) ?_
          case rvx11=>go_simp
          refine QRe 14 (some 85) rfl ZK ZK rfl (.tmp 71) (.tmp 84) 53 rfl y CT _ 2 16 Tryz.underlying53 Qbf rfl ZD (.slice pa PR.length pc) PR.length (QHa PR) HC3.o.2.2 ZK _ 1 [iv c,iv d] ZK HNW.o rfl rfl (by unfold maxLen;omega) ZO (by simp;omega) ?_;intro g cp w9 ho hg;have HB9:=Zh (HC3.o.1.trans (Below.of_grown hg HC3.o.2.2 (by simp;omega)):Below y wk w9);have HG9:=Zh (show OwnI y w9 (.slice ga G4 gc) (G2++(if b4=true then ((s.uses.take (k+1)).map UF).flatten else [])) from QWb HC3.o.2.1 HC3.o.2.2 hg ZD);have HP9:=Zh (show Qya y w9 (.slice g (PR.length+1) cp) (if true=true then (s.uses.take (k+1)).map fun u=>((UF u).headD 0,D.headD 0) else []) by
           rw[HPS2.o];unfold Qya;rw[QYf,List.length_append];exact ho)
          clear hS0 ho hg;have hS0:=HSS.o _ HB9.o;refine⟨fun _=>hS0,?_⟩;refine Yn 15 11 ?_;refine Qu ZK ?_ _;generalize hA:Act.put _ _ _=A0;simp only[Qba,Qaa,Zu,Zv,Zw] at hA;subst hA;clear c0 d0 hS0;go_wp2;go_roundw
          case rel=>exact⟨k+1,by omega,by go_num,HB9.o,HG9,HP9⟩
          case measure=>simp[intOf];omega
         ·refine Qs 11 (some 82) (iv d) m2 rfl ZK ?rwx13 rfl ?_
          case rwx13=>go_simp
          refine⟨fun _=>hS0,?_⟩;refine QW 5 (some 76) (iv c) m2 rfl ZK ZK ?rvx14 rfl (fun _=>hS0) ?_
          case rvx14=>go_simp
          refine Yn 12 83 ?_;have hyw:y≤m2.heap.size:=by have:=HC2.o.1.size;have:=HY.o;omega
          have HAL:=Zh (show Below m2.heap.size m2 (m2.alloc (.cells #[iv c,iv d] CT)) from Zb);have HC3:=Zh (show Below y wk (m2.alloc (.cells #[iv c,iv d] CT))∧OwnI y (m2.alloc (.cells #[iv c,iv d] CT)) (.slice ga G4 gc) (G2++(if b4=true then ((s.uses.take (k+1)).map UF).flatten else []))∧Qya y (m2.alloc (.cells #[iv c,iv d] CT)) (.slice pa PR.length pc) PR from⟨HC2.o.1.trans (HAL.o.mono hyw),HC2.o.2.1.below HAL.o,HC2.o.2.2.below HAL.o⟩);have HNW:=Zh (show Qg (m2.alloc (.cells #[iv c,iv d] CT)) CT 2 (.slice (some ⟨m2.heap.size,0,none⟩) 1 1) [iv c,iv d] from Qrg m2);clear hS0;have hS0:=HSS.o _ HC3.o.1;refine QW 13 (some 84) (.slice (some ⟨m2.heap.size,0,none⟩) 1 1) (m2.alloc (.cells #[iv c,iv d] CT)) rfl ZK ZK ?rvx16 rfl (fun _=>hS0) ?_
          case rvx16=>go_simp
          refine QRe 14 (some 85) rfl ZK ZK rfl (.tmp 71) (.tmp 84) 53 rfl y CT _ 2 16 Tryz.underlying53 Qbf rfl ZD (.slice pa PR.length pc) PR.length (QHa PR) HC3.o.2.2 ZK _ 1 [iv c,iv d] ZK HNW.o rfl rfl (by unfold maxLen;omega) ZO (by simp;omega) ?_;intro g cp w9 ho hg;have HB9:=Zh (HC3.o.1.trans (Below.of_grown hg HC3.o.2.2 (by simp;omega)):Below y wk w9);have HG9:=Zh (show OwnI y w9 (.slice ga G4 gc) (G2++(if b4=true then ((s.uses.take (k+1)).map UF).flatten else [])) from QWb HC3.o.2.1 HC3.o.2.2 hg ZD);have HP9:=Zh (show Qya y w9 (.slice g (PR.length+1) cp) (if true=true then (s.uses.take (k+1)).map fun u=>((UF u).headD 0,D.headD 0) else []) by
           rw[HPS2.o];unfold Qya;rw[QYf,List.length_append];exact ho)
          clear hS0 ho hg;have hS0:=HSS.o _ HB9.o;refine⟨fun _=>hS0,?_⟩;refine Yn 15 11 ?_;refine Qu ZK ?_ _;generalize hA:Act.put _ _ _=A0;simp only[Qba,Qaa,Zu,Zv,Zw] at hA;subst hA;clear c0 d0 hS0;go_wp2;go_roundw
          case rel=>exact⟨k+1,by omega,by go_num,HB9.o,HG9,HP9⟩
          case measure=>simp[intOf];omega
     ·obtain rfl:k=un:=by omega
      have HTK:=Zh (show s.uses.take k=s.uses from List.take_of_length_le (by rw[HUN.o];exact Nat.le_refl _));rw[HTK.o] at hGR hPR;have HGG:=Zh (show GR=Qgg (QN p) (QC p kind) kind i s by rw[HGL.o,←hGR]);have HPP:=Zh (show PR=QTe (QN p) (QC p kind) kind s by rw[HPL.o,←hPR]);clear hGR hPR;have hyr:y≤wr.heap.size:=by have:=HBr.o.size;have:=HY.o;omega
      have KS:=Zh (Qpq PR (.slice pa PR.length pc) wr (fun c hc=>by
       rw[HPP.o] at hc;unfold QTe at hc
       split at hc
       ·obtain⟨x,-,rfl⟩:=List.mem_map.1 hc;have h1:=Qws (l:=QGa (QC p kind) (idxI (QN p) x)) (fun x hx=>QHg hx);rw[HML.o] at h1;exact⟨h1.1,by have:=h1.2;simp only;omega⟩
       ·cases hc) ZO HPr.o)
      go_wp2_with fail;refine KS.o.mono ?_;rintro e w5 ⟨rfl,PS,ho5,hperm,hsort,hg5⟩;have hl5:PS.length≤4:=by rw[hperm.length_eq];exact hPRl
      have HB5:=Zh (HBr.o.trans (Below.of_grown hg5 HPr.o hyr):Below y wk w5);have HG5:=Zh (show OwnI y w5 (.slice ra GR.length rc) GR from QWb HGr.o HPr.o hg5 ZD);have HPM:=Zh (And.intro hperm hsort);have KC:=Zh (Qfn PS _ w5 ZO ho5 ZO);have HP5:=Zh ho5;have hy5:y≤w5.heap.size:=by have:=HB5.o.size;have:=HY.o;omega
      clear ho5 hperm hsort hg5 KS HGr HPr;go_wp2_with fail;refine KC.o.mono ?_;rintro e w6 ⟨cu,rfl,hcu,hg6⟩;have HB6:=Zh (HB5.o.trans (Below.of_grown hg6 HP5.o hy5):Below y wk w6);have HG6:=Zh (show OwnI y w6 (.slice ra GR.length rc) GR from QWb HG5.o HP5.o hg6 ZD);obtain⟨cua,cuc,rfl,-⟩:=hcu.cell;obtain⟨cn,hcn⟩:=Ze ((Qxa PS).length);rw[hcn] at hcu ⊢;have HC6:=Zh hcu;have hy6:y≤w6.heap.size:=by have:=HB6.o.size;have:=HY.o;omega
      obtain⟨q,hq⟩:=Ze w6.heap.size;obtain⟨W7,hW7⟩:=Ze (w6.alloc (.cells #[iv 0,.slice none 0 0,iv 0,.slice none 0 0,.slice cua cn cuc] FNA));have A7:=Zh (show Below w6.heap.size w6 W7 by rw[←hW7];exact Zb);have HQ7:=Zh (show W7.heap[q]? = some (.cells #[iv 0,.slice none 0 0,iv 0,.slice none 0 0,.slice cua cn cuc] FNA (0,0)) by rw[←hW7,←hq];exact heap_alloc_new _ _);have HB7:=Zh (HB6.o.trans (A7.o.mono hy6):Below y wk W7);have HG7:=Zh (HG6.o.below A7.o);have HC7:=Zh (HC6.o.below A7.o);have HW7:=Zh hW7;have hyq:y≤q:=by omega
      have RAW:=Zh (QQr HH.o HN.o HS.o (sc:=PS) (by rw[←HPP.o];exact HPM.o.1) HPM.o.2);obtain⟨RG,hRG⟩:=Ze ((rawT (QN p) (QC p kind) kind i s).gen);obtain⟨RK,hRK⟩:=Ze ((rawT (QN p) (QC p kind) kind i s).kill);have HRGo:=Zh (show Ok m RG by rw[←hRG,←HML.o];exact QIb _ (by rw[HML.o];exact hm));have HRKo:=Zh (show Ok m RK by rw[←hRK,←HML.o];exact QIb _ (by rw[HML.o];exact hm));rw[hRG,hRK] at RAW;clear hW7 hcu hg6 KC hcn hRG hRK HG6 HC6 HP5;go_upto_region 21 with(fail)
      try rw[hq]
      rw[show w6.alloc (.cells #[iv 0,.slice none 0 0,iv 0,.slice none 0 0,.slice cua cn cuc] FNA)=W7 from HW7.o];have KG:=Zh (show Calls Tryz.prog 115 #[iv m,.slice ra GR.length rc] W7 (SetE (RG,0) W7) by
       have h1:=QXp m GR (.slice ra GR.length rc) W7 HG7.o.ints;have h2:=RAW.o.1;rw[HML.o,←HGG.o] at h2
       rwa [h2] at h1)
      clear hq;go_wp2_with fail;refine KG.o.mono ?_;rintro e w8 ⟨gu,rfl,hgu,b8⟩;obtain⟨gua,gun,guc,rfl⟩:=hgu.shape;simp only[setV,HRGo.o.width];have HGW8:=Zh hgu.words;have HQ8:=Zh (Qc HQ7.o b8 (Qb HQ7.o));have HB8:=Zh (HB7.o.trans (b8.mono (by have:=HB7.o.size;have:=HY.o;omega)));have HC8:=Zh (HC7.o.below b8);obtain⟨W9,hW9⟩:=Ze ((w8.setCell ⟨q,0,none⟩ (iv m)).setCell ⟨q,1,none⟩ (.slice gua gun guc));have hT8:tyAt w8 q=some FNA:=Qv HQ8.o ZO;have hT8b:tyAt (w8.setCell ⟨q,0,none⟩ (iv m)) q=some FNA:=by rw[QS];exact hT8
      have HQ9:=Zh (show W9.heap[q]? = some (.cells #[iv m,.slice gua gun guc,iv 0,.slice none 0 0,.slice cua cn cuc] FNA (0,0)) by rw[←hW9];exact set5a HQ8.o _ _);have HB9:=Zh (show Below y wk W9 by rw[←hW9];exact(HB8.o.setCell (by show y≤q;omega) _).setCell (by show y≤q;omega) _);have HGW9:=Zh (show Qi W9 (.slice gua gun guc) RG.words by rw[←hW9];exact(HGW8.o.keep (Qf.setCell (U:=FNA) hT8 ZD)).keep (Qf.setCell (U:=FNA) hT8b ZD));have HC9:=Zh (show QKc W9 (.slice cua cn cuc) (Qxa PS) by rw[←hW9];exact Qg.same (Qg.same HC8.o (Qf.setCell (U:=FNA) hT8 ZD)) (Qf.setCell (U:=FNA) hT8b ZD));have HW9:=Zh hW9;clear hgu b8 KG hW9 hT8 hT8b;obtain⟨c0,c1,c2,c3,c4⟩:=QJ HQ8.o;have f0:=(Qa HQ8.o).2 0;have f1:=(Qa HQ8.o).2 1;go_upto_region 22 with(fail)
      rw[show(w8.setCell ⟨q,0,none⟩ (iv m)).setCell ⟨q,1,none⟩ (.slice gua gun guc)=W9 from HW9.o];clear c0 c1 c2 c3 c4 f0 f1 HQ8 HC8 HGW8 HQ7 HC7;have KK:=Zh (show Calls Tryz.prog 115 #[iv m,.slice ka kn kc] W9 (SetE (RK,0) W9) by
       have h1:=QXp m _ (.slice ka kn kc) W9 (Qg.same HK1.o (Qf.below (HY.o▸HB9.o)));have h2:=RAW.o.2.1;rw[HML.o,HKL.o] at h2
       rwa [h2] at h1)
      go_wp2_with fail;refine KK.o.mono ?_;rintro e w10 ⟨ku,rfl,hku,b10⟩;obtain⟨kua,kun,kuc,rfl⟩:=hku.shape;simp only[setV,HRKo.o.width];have HKW10:=Zh hku.words;have HQ10:=Zh (Qc HQ9.o b10 (Qb HQ9.o));have HB10:=Zh (HB9.o.trans (b10.mono (by have:=HB9.o.size;have:=HY.o;omega)));have HC10:=Zh (HC9.o.below b10);have HGW10:=Zh (HGW9.o.below b10);obtain⟨W11,hW11⟩:=Ze ((w10.setCell ⟨q,2,none⟩ (iv m)).setCell ⟨q,3,none⟩ (.slice kua kun kuc));have hT8:tyAt w10 q=some FNA:=Qv HQ10.o ZO;have hT8b:tyAt (w10.setCell ⟨q,2,none⟩ (iv m)) q=some FNA:=by rw[QS];exact hT8
      have HQ11:=Zh (show W11.heap[q]? = some (.cells #[iv m,.slice gua gun guc,iv m,.slice kua kun kuc,.slice cua cn cuc] FNA (0,0)) by rw[←hW11];exact set5b HQ10.o _ _);have HB11:=Zh (show Below y wk W11 by rw[←hW11];exact(HB10.o.setCell (by show y≤q;omega) _).setCell (by show y≤q;omega) _);have HTA:=Zh (show Qja W11 (.slice gua gun guc) (.slice kua kun kuc) (.slice cua cn cuc) ⟨RG,RK,Qxa PS⟩ by
       rw[←hW11];exact⟨(HGW10.o.keep (Qf.setCell (U:=FNA) hT8 ZD)).keep (Qf.setCell (U:=FNA) hT8b ZD),(HKW10.o.keep (Qf.setCell (U:=FNA) hT8 ZD)).keep (Qf.setCell (U:=FNA) hT8b ZD),Qg.same (Qg.same HC10.o (Qf.setCell (U:=FNA) hT8 ZD)) (Qf.setCell (U:=FNA) hT8b ZD)⟩)
      have HW11:=Zh hW11;clear hku b10 KK hW11 hT8 hT8b;obtain⟨c0,c1,c2,c3,c4⟩:=QJ HQ10.o;have f2:=(Qa HQ10.o).2 2;have f3:=(Qa HQ10.o).2 3;go_upto_region 23 with(fail)
      rw[show(w10.setCell ⟨q,2,none⟩ (iv m)).setCell ⟨q,3,none⟩ (.slice kua kun kuc)=W11 from HW11.o];clear c0 c1 c2 c3 c4 f2 f3 HQ10 HC10 HGW10 HKW10 HQ9 HC9 HGW9;obtain⟨c0,c1,c2,c3,c4⟩:=QJ HQ11.o;have KN:=Zh (show Calls Tryz.prog 19 #[.agg #[iv m,.slice gua gun guc,iv m,.slice kua kun kuc,.slice cua cn cuc]] W11 (QCl (Qlb (rawT (QN p) (QC p kind) kind i s) m,0) W11) by
       have hbw:=HZW.o _ (HYW.o _ HB11.o);have h1:=Qqr (B:=B) ⟨RG,RK,Qxa PS⟩ (.slice gua gun guc) (.slice kua kun kuc) (.slice cua cn cuc) W11 HTA.o (TZ.o.below (hbw.mono hB)) (by have:=hbw.size;omega);have h2:=RAW.o.2.2;rw[HML.o] at h2;rw[h2] at h1;simp only[trV,HRGo.o.width,HRKo.o.width] at h1;exact h1)
      go_wp2_with fail;refine KN.o.mono ?_;rintro e w12 ⟨au,bu,du,rfl,ht,b12⟩;obtain⟨CR,hCR⟩:=Ze (Qlb (rawT (QN p) (QC p kind) kind i s) m);have HCR:=Zh hCR;rw[hCR] at ht ⊢;clear hCR;obtain⟨aa,ac,rfl,-,-,-,-⟩:=ht.gen.cell;obtain⟨ba,bc,rfl,-,-,-,-⟩:=ht.kill.cell;obtain⟨da,dc,rfl,-,-,-,-⟩:=ht.cops.cell;simp only[trV];obtain⟨an,han⟩:=Ze CR.gen.words.length;obtain⟨bn,hbn⟩:=Ze CR.kill.words.length;obtain⟨dn,hdn⟩:=Ze CR.cops.length;rw[han,hbn,hdn] at ht ⊢;obtain⟨aw,haw⟩:=Ze CR.gen.width;obtain⟨bw,hbw⟩:=Ze CR.kill.width;rw[haw,hbw];have HAW:=Zh haw;have HBW:=Zh hbw;have HT12:=Zh ht;have HB12:=Zh (HB11.o.trans (b12.mono (by have:=HB11.o.size;have:=HY.o;omega)));obtain⟨r,hr⟩:=Ze w12.heap.size;obtain⟨W13,hW13⟩:=Ze (w12.alloc (.cells #[iv aw,.slice aa an ac,iv bw,.slice ba bn bc,.slice da dn dc] FNA));have A13:=Zh (show Below w12.heap.size w12 W13 by rw[←hW13];exact Zb);have HQ13:=Zh (show W13.heap[r]? = some (.cells #[iv aw,.slice aa an ac,iv bw,.slice ba bn bc,.slice da dn dc] FNA (0,0)) by rw[←hW13,←hr];exact heap_alloc_new _ _);have HB13:=Zh (HB12.o.trans (A13.o.mono (by have:=HB12.o.size;have:=HY.o;omega)):Below y wk W13);have HT13:=Zh (HT12.o.below A13.o);have HW13:=Zh hW13;have hrz:z+1+1+1<r:=by have:=HB12.o.size;have:=HY.o;omega
      clear ht b12 KN hW13 han hbn hdn haw hbw c0 c1 c2 c3 c4 HT12;go_upto_region 24 with(fail)
      try rw[hr]
      rw[show w12.alloc (.cells #[iv aw,.slice aa an ac,iv bw,.slice ba bn bc,.slice da dn dc] FNA)=W13 from HW13.o];have HRB3:=Zh (HCEL.o W13 (HYW.o _ HB13.o)).2.2;obtain⟨r0,r1,r2,r3,r4⟩:=QJ HQ13.o;obtain⟨c0,c1,c2,c3,c4⟩:=QJ HRB3.o;have f0:=(Qa HRB3.o).2 0;have f1:=(Qa HRB3.o).2 1;have f2:=(Qa HRB3.o).2 2;have f3:=(Qa HRB3.o).2 3;have f4:=(Qa HRB3.o).2 4;have E5:=Zh (set5 HRB3.o (iv aw) (.slice aa an ac) (iv bw) (.slice ba bn bc) (.slice da dn dc));have HSM:=Zh (fun (T:TypeId) (hne:T≠FNA)=>Quc (T:=T) (Qv HRB3.o ZO) hne (iv aw) (.slice aa an ac) (iv bw) (.slice ba bn bc) (.slice da dn dc));have HT14:=Zh (HT13.o.keep (HSM.o _ ZD) (HSM.o _ ZD));have HB14:=Zh (show Below z w (((((W13.setCell ⟨z+1+1+1,0,none⟩ (iv aw)).setCell ⟨z+1+1+1,1,none⟩ (.slice aa an ac)).setCell ⟨z+1+1+1,2,none⟩ (iv bw)).setCell ⟨z+1+1+1,3,none⟩ (.slice ba bn bc)).setCell ⟨z+1+1+1,4,none⟩ (.slice da dn dc)) from by
       have h0:Below z w W13:=HZ.o▸HZW.o _ (HYW.o _ HB13.o);exact((((h0.setCell (by show z≤z+1+1+1;omega) _).setCell (by show z≤z+1+1+1;omega) _).setCell (by show z≤z+1+1+1;omega) _).setCell (by show z≤z+1+1+1;omega) _).setCell (by show z≤z+1+1+1;omega) _)
      clear hr;go_wp2;obtain⟨g0,g1,g2,g3,g4⟩:=QJ E5.o;refine bodyPost_ret (v:=.agg #[iv aw,.slice aa an ac,iv bw,.slice ba bn bc,.slice da dn dc]) (by simp[results,Tryz.results48,go_sem,g0,g1,g2,g3,g4]) rfl ?_;rw[HCR.o];exact⟨.slice aa an ac,.slice ba bn bc,.slice da dn dc,by rw[show trV CR (.slice aa an ac) (.slice ba bn bc) (.slice da dn dc)=.agg #[iv CR.gen.width,.slice aa an ac,iv CR.kill.width,.slice ba bn bc,.slice da dn dc] from rfl,HAW.o,HBW.o],HT14.o,by rw[HZ.o];exact HB14.o⟩
end
section
open Go.RowKit
variable [Base]
abbrev SYT:TypeId:=36
abbrev GRT:TypeId:=46
structure QKd (w:World)(dv tv bv:Value)(s:SysS):Prop where
 deps:Qoa Qqc w dv s.deps
 trans:Qoa trEl w tv s.trans
 bnds:Qoa Qsa w bv s.bnds
theorem QKd.keep {w w':World}{dv tv bv:Value}{s:SysS}(h:QKd w dv tv bv s)(hs:∀U∈[IT,IN,FNA,ST,139,CT],Qf U w w'):QKd w' dv tv bv s:=
 ⟨h.deps.keep fun U hU=>hs U (by simp[Qqc] at hU;rcases hU with rfl|rfl <;> simp),h.trans.keep fun U hU=>hs U (by simp[trEl] at hU;rcases hU with rfl|rfl|rfl <;> simp),h.bnds.keep fun U hU=>hs U (by simp[Qsa] at hU;rcases hU with rfl|rfl <;> simp)⟩
theorem QKd.below {w w':World}{dv tv bv:Value}{s:SysS}(h:QKd w dv tv bv s)(b:Below w.heap.size w w'):QKd w' dv tv bv s:=h.keep fun _ _=>Qf.below b
abbrev sysV (s:SysS)(dv tv bv:Value):Value:=.agg #[iv s.width,dv,tv,bv]
def SysE (r:SysS×Int)(w:World)(e:Ending)(w':World):Prop:=∃dv tv bv,e=.returned (.tuple #[sysV r.1 dv tv bv,iv r.2])∧QKd w' dv tv bv r.1∧Below w.heap.size w w'
theorem Qiu {w:World}{b:Nat}{a0 a1 a2 a3:Value}{t:TypeId}{fr:Nat×Nat}(h:w.heap[b]? = some (.cells #[a0,a1,a2,a3] t fr))(x:Value):
  (w.setCell ⟨b,2,none⟩ x).heap[b]? = some (.cells #[a0,a1,x,a3] t fr):=by
 simp[World.setCell,Array.getElem?_modify,h]
theorem Qhu {w:World}{b:Nat}{a0 a1 a2 a3:Value}{t:TypeId}{fr:Nat×Nat}(h:w.heap[b]? = some (.cells #[a0,a1,a2,a3] t fr))(x:Value):
  (w.setCell ⟨b,3,none⟩ x).heap[b]? = some (.cells #[a0,a1,a2,x] t fr):=by
 simp[World.setCell,Array.getElem?_modify,h]
theorem Qsg {T U:TypeId}{w:World}{b:Nat}(h:tyAt w b=some U)(hne:T≠U)(x0 x1 x2 x3:Value):Qf T w ((((w.setCell ⟨b,0,none⟩ x0).setCell ⟨b,1,none⟩ x1).setCell ⟨b,2,none⟩ x2).setCell ⟨b,3,none⟩ x3):=by
 have s:∀(w:World) (o:Nat) (x:Value),tyAt w b=some U→Qf T w (w.setCell ⟨b,o,none⟩ x)∧tyAt (w.setCell ⟨b,o,none⟩ x) b=some U:=fun w o x h=>⟨Qf.setCell h hne,by rw[QS];exact h⟩
 have s0:=s w 0 x0 h;have s1:=s _ 1 x1 s0.2;have s2:=s _ 2 x2 s1.2;have s3:=s _ 3 x3 s2.2;exact s0.1.trans (s1.1.trans (s2.1.trans s3.1))
structure OfS (oq m:Nat)(w8 w:World)(dv tv bv:Value)(ts:List Qw)(bs:List QSet):Prop where
 bsz:Base.b≤oq
 zs:w8.heap.size=oq
 below:Below oq w8 w
 ob:w.heap[oq]? = some (.cells #[iv m,dv,tv,bv] SYT (0,0))
 tr:QG trEl (oq+1) w tv ts
 bd:QG Qsa (oq+1) w bv bs
section
variable {oq m:Nat} {w8 w w':World} {dv tv bv:Value} {ts:List Qw} {bs:List QSet}
theorem OfS.lt (h:OfS oq m w8 w dv tv bv ts bs):oq<w.heap.size:=Qb h.ob
theorem OfS.next (h:OfS oq m w8 w dv tv bv ts bs)(b:Below w.heap.size w w'):OfS oq m w8 w' dv tv bv ts bs:=
 ⟨h.bsz,h.zs,h.below.trans (b.mono (by have:=h.lt;omega)),Qc h.ob b (Qb h.ob),h.tr.below b,h.bd.below b⟩
theorem OfS.pushT (h:OfS oq m w8 w dv tv bv ts bs){xss:List (List Value)}(ho:w.ownsRow (oq+1) FNA 5 tv ts.length xss.flatten)(hx:All2 (trEl.C w) xss ts){t:Qw}{gu ku cu:Value}(ht:Qja w gu ku cu t){g cap:Nat}(ho2:w'.ownsRow (oq+1) FNA 5 (.slice (some ⟨g,0,none⟩) (ts.length+1) cap) (ts.length+1) (xss.flatten++[iv t.gen.width,gu,iv t.kill.width,ku,cu]))(hg:w.grownBy w' tv.ownBlock):
  OfS oq m w8 (w'.setCell ⟨oq,2,none⟩ (.slice (some ⟨g,0,none⟩) (ts.length+1) cap)) dv (.slice (some ⟨g,0,none⟩) (ts.length+1) cap) bv (ts++[t]) bs∧w'.heap[oq]? = some (.cells #[iv m,dv,tv,bv] SYT (0,0)):=by
 have hlt:=h.lt;have hbz:=h.bsz;have hzw:oq+1≤w.heap.size:=hlt;have hbw:Below (oq+1) w w':=Below.of_grown hg ho hzw;have hob:w'.heap[oq]? = some (.cells #[iv m,dv,tv,bv] SYT (0,0)):=(hbw.block oq ZO).trans h.ob;have hT:tyAt w' oq=some SYT:=Qv hob ZO;have hs:∀U,U≠FNA→U≠SYT→Qf U w (w'.setCell ⟨oq,2,none⟩ (.slice (some ⟨g,0,none⟩) (ts.length+1) cap)):=fun U h1 h2=>(Qf.grown hg ho h1).trans (Qf.setCell (U:=SYT) hT h2)
 refine⟨⟨h.bsz,h.zs,(h.below.trans (hbw.mono ZO)).setCell (by show oq≤oq;omega) _,Qiu hob _,?_,?_⟩,hob⟩
 ·refine QG.snoc (E:=trEl) (v:=tv) (Qza ho2 hT (show FNA≠SYT by decide)) (hx.mono fun _ _ hc=>trEl.keep (fun U hU=>?_) hc) ⟨gu,ku,cu,rfl,ht.keep (hs _ ZD ZD) (hs _ ZD ZD)⟩;have h2:U=139∨U=CT:=by simpa [trEl] using hU
  rcases h2 with rfl|rfl
  ·exact hs _ ZD ZD
  ·exact hs _ ZD ZD
 ·obtain⟨yss,hy,hyx⟩:=h.bd;refine⟨yss,Qza (QWb hy ho hg (show ST≠FNA by decide)) hT (show ST≠SYT by decide),hyx.mono fun _ _ hc=>Qsa.keep (fun U hU=>?_) hc⟩;obtain rfl:U=139:=by simpa [Qsa] using hU
  exact hs _ ZD ZD
theorem OfS.pushB (h:OfS oq m w8 w dv tv bv ts bs){xss:List (List Value)}(ho:w.ownsRow (oq+1) ST 2 bv bs.length xss.flatten)(hx:All2 (Qsa.C w) xss bs){s:QSet}{u:Value}(ht:Qi w u s.words){g cap:Nat}(ho2:w'.ownsRow (oq+1) ST 2 (.slice (some ⟨g,0,none⟩) (bs.length+1) cap) (bs.length+1) (xss.flatten++[iv s.width,u]))(hg:w.grownBy w' bv.ownBlock):
  OfS oq m w8 (w'.setCell ⟨oq,3,none⟩ (.slice (some ⟨g,0,none⟩) (bs.length+1) cap)) dv tv (.slice (some ⟨g,0,none⟩) (bs.length+1) cap) ts (bs++[s])∧w'.heap[oq]? = some (.cells #[iv m,dv,tv,bv] SYT (0,0)):=by
 have hlt:=h.lt;have hbz:=h.bsz;have hzw:oq+1≤w.heap.size:=hlt;have hbw:Below (oq+1) w w':=Below.of_grown hg ho hzw;have hob:w'.heap[oq]? = some (.cells #[iv m,dv,tv,bv] SYT (0,0)):=(hbw.block oq ZO).trans h.ob;have hT:tyAt w' oq=some SYT:=Qv hob ZO;have hs:∀U,U≠ST→U≠SYT→Qf U w (w'.setCell ⟨oq,3,none⟩ (.slice (some ⟨g,0,none⟩) (bs.length+1) cap)):=fun U h1 h2=>(Qf.grown hg ho h1).trans (Qf.setCell (U:=SYT) hT h2)
 refine⟨⟨h.bsz,h.zs,(h.below.trans (hbw.mono ZO)).setCell (by show oq≤oq;omega) _,Qhu hob _,?_,?_⟩,hob⟩
 ·obtain⟨yss,hy,hyx⟩:=h.tr;refine⟨yss,Qza (QWb hy ho hg (show FNA≠ST by decide)) hT (show FNA≠SYT by decide),hyx.mono fun _ _ hc=>trEl.keep (fun U hU=>?_) hc⟩;have h2:U=139∨U=CT:=by simpa [trEl] using hU
  rcases h2 with rfl|rfl
  ·exact hs _ ZD ZD
  ·exact hs _ ZD ZD
 ·refine QG.snoc (E:=Qsa) (v:=bv) (Qza ho2 hT (show ST≠SYT by decide)) (hx.mono fun _ _ hc=>Qsa.keep (fun U hU=>?_) hc) ⟨u,rfl,ht.keep (hs _ ZD ZD)⟩;obtain rfl:U=139:=by simpa [Qsa] using hU
  exact hs _ ZD ZD
end
theorem QFi:(Tryz.prog.info? FNA).map (fun i=>(i.zero,i.size,i.bytes))=some (some (Value.agg #[iv 0,.slice none 0 0,iv 0,.slice none 0 0,.slice none 0 0]),5,88):=by kernel_rfl
theorem Qwi {α β:Type}{l:List α}{k:Nat}{x:α}(f:Nat→α→β)(h:l[k]? = some x):(l.take (k+1)).mapIdx f=(l.take k).mapIdx f++[f k x]:=by
 rw[List.take_add_one,h];have hl:(l.take k).length=k:=by
  have:=(List.getElem?_eq_some_iff.1 h).1;rw[List.length_take];omega
 simp[List.mapIdx_append,hl]
end
end Go.Proofs.YtijekimobahgpaaGreatDoor
