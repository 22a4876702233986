/- A part of the proof. -/
import Derived.Test.YtijekimobahgpaaGreatDoorVa17
set_option linter.unusedVariables false
set_option linter.unusedSimpArgs false
set_option linter.unusedSectionVars false
set_option maxRecDepth 100000
set_option maxHeartbeats 16000000
namespace Go.Proofs.YtijekimobahgpaaGreatDoor
section
open Go.RowKit
variable [Base]
abbrev FNT:TypeId:=55
structure TzIn (B:Nat)(w:World):Prop where
 g:1<B
 bs:Base.b≤B
 tz:TabAt 1 Lib.deBruijn64tab w
theorem TzIn.below {B:Nat}{w w':World}(h:TzIn B w)(hb:Below B w w'):TzIn B w':=⟨h.g,h.bs,fun j hj=>(hb.cell (p:=⟨1,j,none⟩) h.g).trans (h.tz j hj)⟩
structure Cls (z p m:Nat)(t:Qw)(xv:Array Value)(w0 w:World)(gu ku cu:Value)(K:QSet)(C:List Cp):Prop where
 zs:w0.heap.size=z
 below:Below z w0 w
 bs:Base.b≤z
 zp:z+2≤p
 xb:w.heap[z]? = some (.cells xv RT (0,0))
 rb:w.heap[z+1]? = some (.cells #[iv 0,.slice none 0 0,iv 0,.slice none 0 0,.slice none 0 0] FNT (0,0))
 tb:w.heap[p]? = some (.cells #[iv m,gu,iv m,ku,cu] FNT (0,0))
 gen:Qi w gu t.gen.words
 kill:Qi w ku K.words
 kw:K.width=(m:Int)
 cops:Qya z w cu C
section
variable {z p m:Nat} {t:Qw} {xv:Array Value} {w0 w w':World} {gu ku cu:Value} {K:QSet} {C:List Cp}
theorem Cls.next (h:Cls z p m t xv w0 w gu ku cu K C)(b:Below w.heap.size w w'):Cls z p m t xv w0 w' gu ku cu K C:=
 ⟨h.zs,h.below.trans (b.mono (by have:=h.below.size;have:=h.zs;omega)),h.bs,h.zp,Qc h.xb b (Qb h.xb),Qc h.rb b (Qb h.rb),Qc h.tb b (Qb h.tb),h.gen.below b,h.kill.below b,h.kw,h.cops.below b⟩
theorem Cls.zw (h:Cls z p m t xv w0 w gu ku cu K C):z≤w.heap.size:=by have:=h.below.size;have:=h.zs;omega
theorem Cls.turn (h:Cls z p m t xv w0 w gu ku cu K C){K2:QSet}{u:Value}(hu:Qi w u K2.words)(hk:K2.width=(m:Int)):
  Cls z p m t xv w0 ((w.setCell ⟨p,2,none⟩ (iv m)).setCell ⟨p,3,none⟩ u) gu u cu K2 C:=by
 have hz:=h.zp;have hb:=h.bs;have hT:tyAt w p=some FNT:=Qv h.tb ZO;have hT2:tyAt (w.setCell ⟨p,2,none⟩ (iv m)) p=some FNT:=by rw[QS];exact hT
 have hs:∀T,T≠FNT→Qf T w ((w.setCell ⟨p,2,none⟩ (iv m)).setCell ⟨p,3,none⟩ u):=fun T hne=>(Qf.setCell hT hne).trans (Qf.setCell hT2 hne)
 have keep:∀k o,w.heap[k]? = some o→k≠p→((w.setCell ⟨p,2,none⟩ (iv m)).setCell ⟨p,3,none⟩ u).heap[k]? = some o:=fun k o hk hne=>by
  rw[Below.heap_setCell _ _ _ _ hne,Below.heap_setCell _ _ _ _ hne];exact hk
 refine⟨h.zs,(h.below.setCell (by show z≤p;omega) _).setCell (by show z≤p;omega) _,h.bs,h.zp,keep _ _ h.xb ZO,keep _ _ h.rb ZO,?_,h.gen.keep (hs _ ZD),hu.keep (hs _ ZD),hk,?_⟩
 ·simp[World.setCell,Array.getElem?_modify,h.tb]
 ·exact Qza (Qza h.cops hT ZD) hT2 ZD
theorem Cls.off (h:Cls z p m t xv w0 w gu ku cu K C){b:Nat}(hb:p<b)(hT:tyAt w b=some ST)(o:Nat)(x:Value):Cls z p m t xv w0 (w.setCell ⟨b,o,none⟩ x) gu ku cu K C:=by
 have hz:=h.zp;have keep:∀k ob,w.heap[k]? = some ob→k≠b→(w.setCell ⟨b,o,none⟩ x).heap[k]? = some ob:=fun k ob hk hne=>by
  rw[Below.heap_setCell _ _ _ _ hne];exact hk
 have hs:Qf 139 w (w.setCell ⟨b,o,none⟩ x):=Qf.setCell (U:=ST) hT ZD;exact⟨h.zs,h.below.setCell (by show z≤b;omega) _,h.bs,h.zp,keep _ _ h.xb ZO,keep _ _ h.rb ZO,keep _ _ h.tb ZO,h.gen.keep hs,h.kill.keep hs,h.kw,Qza h.cops hT ZD⟩
theorem Cls.push (h:Cls z p m t xv w0 w gu ku cu K C){c:Cp}{g cap:Nat}(ho:w'.ownsRow z CT 2 (.slice (some ⟨g,0,none⟩) (C.length+1) cap) (C.length+1) (QHa C++copV c))(hg:w.grownBy w' cu.ownBlock):
  Cls z p m t xv w0 (w'.setCell ⟨p,4,none⟩ (.slice (some ⟨g,0,none⟩) (C.length+1) cap)) gu ku (.slice (some ⟨g,0,none⟩) (C.length+1) cap) K (C++[c])∧w'.heap[p]? = some (.cells #[iv m,gu,iv m,ku,cu] FNT (0,0)):=by
 have hz:=h.zp;have hb:=h.bs;have keep:∀k c U,w.heap[k]? = some (Obj.cells c U (0,0))→U≠CT→w'.heap[k]? = some (Obj.cells c U (0,0)):=fun k c U hk hU=>
  (hg.block k (Qb hk) (Qdb h.cops hk (fun c' fr e=>by injection e with _ e _;exact hU e))).trans hk
 have hxq:=keep _ _ _ h.xb ZD;have hrq:=keep _ _ _ h.rb ZD;have htq:=keep _ _ _ h.tb ZD;have hT:tyAt w' p=some FNT:=Qv htq ZO;have hs1:Qf 139 w w':=Qf.grown hg h.cops ZD;have hs2:Qf 139 w' (w'.setCell ⟨p,4,none⟩ (.slice (some ⟨g,0,none⟩) (C.length+1) cap)):=Qf.setCell (U:=FNT) hT ZD;refine⟨⟨h.zs,(h.below.trans (Below.of_grown hg h.cops h.zw)).setCell (by show z≤p;omega) _,h.bs,h.zp,?_,?_,?_,(h.gen.keep hs1).keep hs2,(h.kill.keep hs1).keep hs2,h.kw,?_⟩,htq⟩
 ·rw[Below.heap_setCell _ _ _ _ (by show z≠p;omega)];exact hxq
 ·rw[Below.heap_setCell _ _ _ _ (by show z+1≠p;omega)];exact hrq
 ·simp[World.setCell,Array.getElem?_modify,htq]
 ·exact Qya.push (Qza ho hT ZD)
theorem Cls.new (hz:w0.heap.size=z)(hbs:Base.b≤z)(hb:Below z w0 w)(hp:z+2≤p)(hx:w.heap[z]? = some (.cells xv RT (0,0)))(hr:w.heap[z+1]? = some (.cells #[iv 0,.slice none 0 0,iv 0,.slice none 0 0,.slice none 0 0] FNT (0,0)))(ht:w.heap[p]? = some (.cells #[iv 0,.slice none 0 0,iv 0,.slice none 0 0,.slice none 0 0] FNT (0,0)))(hg:Qi w gu t.gen.words)(hk:Qi w ku t.gen.words)(hw:t.gen.width=(m:Int)):
  Cls z p m t xv w0 (((((w.setCell ⟨p,0,none⟩ (iv m)).setCell ⟨p,1,none⟩ gu).setCell ⟨p,2,none⟩ (iv m)).setCell ⟨p,3,none⟩ ku).setCell ⟨p,4,none⟩ (.slice none 0 0)) gu ku (.slice none 0 0) t.gen []:=by
 have hs:=Quc (T:=139) (Qv ht ZO) ZD (iv m) gu (iv m) ku (.slice none 0 0);exact⟨hz,((((hb.setCell (show z≤p by omega) _).setCell (show z≤p by omega) _).setCell (show z≤p by omega) _).setCell (show z≤p by omega) _).setCell (show z≤p by omega) _,hbs,hp,Qdj hx ZO _ _ _ _ _,Qdj hr ZO _ _ _ _ _,set5 ht _ _ _ _ _,hg.keep hs,hk.keep hs,hw,Qya.nil⟩
end
theorem Qnr {B:Nat}(m:Nat)(t:Qw)(hok:OkT m t)(u ofv:Value)(w:World)(hu:Qi w u t.gen.words)(hr:Qoa Qsa w ofv (Qpi t m))(tz:TzIn B w)(hB:B≤w.heap.size):
  Calls Tryz.prog 74 #[.agg #[iv m,u,ofv]] w (QCl (Qlb t m,0) w):=by
 have hm:=hok.gen.le;have OK:=Zh hok;have HRW:=Zh hr;have TZ:=Zh tz;have hgw:=hok.gen.width;have hbs:Base.b≤w.heap.size:=by have:=tz.bs;omega
 have hgB:1<w.heap.size:=by have:=tz.g;omega
 have HU:=Zh hu;obtain⟨ga,gc,rfl,-⟩:=hu.cell;obtain⟨oa,oc,rfl,-,-,-,hoc⟩:=hr.cell;have HOC:=Zh hoc;have hol:(Qpi t m).length=m:=by simp[Qpi]
 rw[hol] at HRW ⊢;have HGL:=Zh (show t.gen.words.length≤1000000 by
  obtain⟨k,h1,h2,h3⟩:=Qka hok.gen.form;rw[h3];unfold Qj;omega)
 obtain⟨gn,hgn⟩:=Ze t.gen.words.length;rw[hgn] at HU ⊢;obtain⟨z,hz⟩:=Ze w.heap.size;obtain⟨W,hW⟩:=Ze ((w.alloc (.cells #[iv m,.slice ga gn gc,.slice oa m oc] RT)).alloc (.cells #[iv 0,.slice none 0 0,iv 0,.slice none 0 0,.slice none 0 0] FNT));have HWW:=Zh hW;have HZ:=Zh hz;have BW:=Zh (show Below z w W by rw[←hW,←hz];exact(Zb).alloc ZS _);have HX:=Zh (show W.heap[z]? = some (.cells #[iv m,.slice ga gn gc,.slice oa m oc] RT (0,0)) by rw[←hW,←hz,Below.heap_alloc _ _ _ ZS];exact heap_alloc_new _ _);have HR:=Zh (show W.heap[z+1]? = some (.cells #[iv 0,.slice none 0 0,iv 0,.slice none 0 0,.slice none 0 0] FNT (0,0)) by rw[←hW,←hz];exact Qda _ _);have HSZ:=Zh (show W.heap.size=z+2 by rw[←hW,←hz];simp);have HUW:=Zh (HU.o.below (HZ.o▸BW.o):Qi W (.slice ga gn gc) t.gen.words);have KC:=Zh (show ∀x,Below W.heap.size W x→Calls Tryz.prog 106 #[.agg #[iv m,.slice ga gn gc]] x (SetV t.gen x) from fun x b=>by
  have h1:=Qog t.gen (.slice ga gn gc) x (HUW.o.below b) HGL.o (by have:=b.size;have:=HSZ.o;have:=HZ.o;omega);rw[show setV t.gen (.slice ga gn gc)=.agg #[iv m,.slice ga gn gc] by rw[←hgw]] at h1;exact h1)
 have HSS:=Zh (show ∀w',Below W.heap.size W w'→(w'.cell? ⟨z,0,none⟩=some (iv m)∧w'.cell? ⟨z,1,none⟩=some (.slice ga gn gc)) from fun w' hb=>by
  obtain⟨a0,a1,-⟩:=QVa (Qc HX.o hb (Qb HX.o));exact⟨a0,a1⟩)
 clear hu hr tz hoc hW hgn hok;go_enter Tryz.func74,Tryz.ntmps74;go_upto_region 1 with(fail)
 rw[show(w.alloc (.cells #[iv m,.slice ga gn gc,.slice oa m oc] RT)).alloc (.cells #[iv 0,.slice none 0 0,iv 0,.slice none 0 0,.slice none 0 0] FNT)=W from HWW.o]
 try rw[hz]
 obtain⟨XV,hXV⟩:∃v:Array Value,#[iv m,.slice ga gn gc,.slice oa m oc]=v:=⟨_,rfl⟩;have HXV:=Zh hXV;rw[hXV] at HX;clear hXV;go_cut [4] from 9 to 15 (fun s4 wx=>∃(p:Nat) (ku:Value),s4=.pointer (some ⟨p,0,none⟩)∧Hid (Cls z p m t XV w wx (.slice ga gn gc) ku (.slice none 0 0) t.gen []))
 case first=>
  refine Zr (fun w'=>w'.cell? ⟨z,0,none⟩=some (iv m)∧w'.cell? ⟨z,1,none⟩=some (.slice ga gn gc)) 7 (HSS.o (W.drewN 1) (Qp (Below.refl _ _) 1)) fun hS0=>?_
  refine Yd 0 9 ?_;refine Yd 1 10 ?_;refine Yd 2 11 ?_;refine Yd 3 12 ?_;refine Qh (rs:=[4,6]) ZK ZD ?_;intro i hi;have hi2:i=4∨i=6:=by simpa using hi
  clear hi;rcases hi2 with rfl|rfl
  ·refine Ql rfl ?_;go_wp2_with fail;refine(KC.o (W.drewN 1) (Qp (Below.refl _ _) 1)).mono ?_;rintro e m1 ⟨ku,rfl,hk,b1⟩;obtain⟨ka,kc,rfl,-⟩:=hk.cell;obtain⟨kn,hkn⟩:=Ze t.gen.words.length;rw[hkn] at hk;rw[show setV t.gen (.slice ka t.gen.words.length kc)=.agg #[iv m,.slice ka kn kc] by rw[←hgw,←hkn]];have BB1:=Zh ((Qp (Below.refl _ _) 1).trans b1:Below W.heap.size W m1);clear hS0;have hS0:=HSS.o m1 BB1.o;go_wp2;refine⟨by first|exact hS0|exact fun _=>hS0,?_⟩;refine Yd 5 14 ?_;have BBV:=Zh (BB1.o.trans ((Below.refl m1.heap.size m1).alloc (Nat.le_refl _) (.cells #[iv 0,.slice none 0 0,iv 0,.slice none 0 0,.slice none 0 0] FNT) |>.mono BB1.o.size));have HT:=Zh (heap_alloc_new m1 (.cells #[iv 0,.slice none 0 0,iv 0,.slice none 0 0,.slice none 0 0] FNT));have HK:=Zh (hk.below ((Below.refl m1.heap.size m1).alloc (Nat.le_refl _) (.cells #[iv 0,.slice none 0 0,iv 0,.slice none 0 0,.slice none 0 0] FNT)));have hpz:z+2≤m1.heap.size:=by have:=BB1.o.size;have:=HSZ.o;omega
   have HBV:=Zh (BW.o.trans (BBV.o.mono (by have:=HSZ.o;omega)));refine QW 6 (some 4) (.pointer (some ⟨m1.heap.size,0,none⟩)) (m1.alloc (.cells #[iv 0,.slice none 0 0,iv 0,.slice none 0 0,.slice none 0 0] FNT)) rfl ZK ZK ?ral rfl (fun _=>HSS.o _ BBV.o) ?_
   case ral=>go_simp
   have fz:=Qa HT.o;have f0:=fz.2 0;have f1:=fz.2 1;have f2:=fz.2 2;have f3:=fz.2 3;have f4:=fz.2 4;have c0:=fz.1 0;have c1:=fz.1 1;have c2:=fz.1 2;have c3:=fz.1 3;have c4:=fz.1 4;simp only[Zx,Zy,Zz] at c0 c1 c2 c3 c4;clear hS0;refine Qeb 7 none ((((((m1.alloc (.cells #[iv 0,.slice none 0 0,iv 0,.slice none 0 0,.slice none 0 0] FNT)).setCell ⟨m1.heap.size,0,none⟩ (iv m)).setCell ⟨m1.heap.size,1,none⟩ (.slice ga gn gc)).setCell ⟨m1.heap.size,2,none⟩ (iv m)).setCell ⟨m1.heap.size,3,none⟩ (.slice ka kn kc)).setCell ⟨m1.heap.size,4,none⟩ (.slice none 0 0)) rfl ZK ZK ?rsp1 rfl (fun h=>absurd rfl h) ?_
   case rsp1=>go_simp
   refine Qu ZK ?_ _;have HC:=Zh (Cls.new (z:=z) (p:=m1.heap.size) (m:=m) (t:=t) (xv:=XV) (w0:=w) HZ.o ZO HBV.o hpz (Qc HX.o BBV.o (Qb HX.o)) (Qc HR.o BBV.o (Qb HR.o)) HT.o (HUW.o.below BBV.o) HK.o hgw);clear f0 f1 f2 f3 f4 c0 c1 c2 c3 c4 fz;go_wp2;go_meet
   case rel=>exact⟨_,_,rfl,HC.o⟩
  ·refine Ql rfl ?_;go_wp2;have BBA:=Zh ((Qp (Below.refl W.heap.size W) 1).alloc (Nat.le_refl _) (.cells #[iv 0,.slice none 0 0,iv 0,.slice none 0 0,.slice none 0 0] FNT));clear hS0;have hS0:=HSS.o _ BBA.o;refine⟨by first|exact hS0|exact fun _=>hS0,?_⟩;refine QP 4 (some 13) 106 #[.agg #[iv m,.slice ga gn gc]] rfl ZK ZK ZK rfl ?_;refine(KC.o ((W.drewN 1).alloc (.cells #[iv 0,.slice none 0 0,iv 0,.slice none 0 0,.slice none 0 0] FNT)) BBA.o).mono ?_;rintro e m1 ⟨ku,rfl,hk,b1⟩;obtain⟨ka,kc,rfl,-⟩:=hk.cell;obtain⟨kn,hkn⟩:=Ze t.gen.words.length;rw[hkn] at hk;rw[show setV t.gen (.slice ka t.gen.words.length kc)=.agg #[iv m,.slice ka kn kc] by rw[←hgw,←hkn]];have BBV:=Zh (BBA.o.trans (b1.mono ZS):Below W.heap.size W m1);clear hS0;have hS0:=HSS.o m1 BBV.o;refine⟨_,rfl,fun _=>hS0,?_⟩;refine Yd 5 14 ?_;have HT:=Zh (Qc (heap_alloc_new (W.drewN 1) (.cells #[iv 0,.slice none 0 0,iv 0,.slice none 0 0,.slice none 0 0] FNT)) b1 ZS:m1.heap[W.heap.size]? = _);have HK:=Zh hk;have hpz:z+2≤W.heap.size:=by have:=HSZ.o;omega
   have HBV:=Zh (BW.o.trans (BBV.o.mono (by have:=HSZ.o;omega)));have fz:=Qa HT.o;have f0:=fz.2 0;have f1:=fz.2 1;have f2:=fz.2 2;have f3:=fz.2 3;have f4:=fz.2 4;have c0:=fz.1 0;have c1:=fz.1 1;have c2:=fz.1 2;have c3:=fz.1 3;have c4:=fz.1 4;simp only[Zx,Zy,Zz] at c0 c1 c2 c3 c4;clear hS0;refine Qeb 7 none (((((m1.setCell ⟨W.heap.size,0,none⟩ (iv m)).setCell ⟨W.heap.size,1,none⟩ (.slice ga gn gc)).setCell ⟨W.heap.size,2,none⟩ (iv m)).setCell ⟨W.heap.size,3,none⟩ (.slice ka kn kc)).setCell ⟨W.heap.size,4,none⟩ (.slice none 0 0)) rfl ZK ZK ?rsp2 rfl (fun h=>absurd rfl h) ?_
   case rsp2=>go_simp
   refine Qu ZK ?_ _;have HC:=Zh (Cls.new (z:=z) (p:=W.heap.size) (m:=m) (t:=t) (xv:=XV) (w0:=w) HZ.o ZO HBV.o hpz (Qc HX.o BBV.o (Qb HX.o)) (Qc HR.o BBV.o (Qb HR.o)) HT.o (HUW.o.below BBV.o) HK.o hgw);clear f0 f1 f2 f3 f4 c0 c1 c2 c3 c4 fz;go_wp2;go_meet
   case rel=>exact⟨_,_,rfl,HC.o⟩
 case rest=>
  obtain⟨p,ku,rfl,HC⟩:=hcut;have hbz:Base.b≤z:=HC.o.bs;have hpz:z+2≤p:=HC.o.zp;have hxb:=HC.o.xb;rw[←HXV.o] at hxb;obtain⟨x0,x1,x2⟩:=QVa hxb;have HC0:=Zh (show Cls z p m t XV w wc (.slice ga gn gc) ku (.slice none 0 0) (QJb t m 0) (copC t m 0) by
   rw[Qno OK.o.gen];exact HC.o)
  clear hxb HC KC;go_wp2;clear x0 x1 x2;go_loopw [18] (fun y wr=>∃(i:Nat) (ku cu:Value),i≤m∧y=.int .i64 i∧Hid (Cls z p m t XV w wr (.slice ga gn gc) ku cu (QJb t m i) (copC t m i))) (fun y _=>m-(intOf y).toNat)
  case atStart=>exact⟨0,_,_,Nat.zero_le _,rfl,HC0.o⟩
  case round=>
   obtain⟨i,ku,cu,hi,rfl,HC1⟩:=hrel;by_cases hlt:i<m;rotate_left
   ·obtain rfl:i=m:=by omega
    have HK:=Zh (QTq t i hm);have hcl:=Qdn OK.o.len (m:=i) i;obtain⟨ca,cc,hce,-⟩:=HC1.o.cops.at_.cell;obtain⟨kka,kkc,hke,-⟩:=HC1.o.kill.cell;obtain⟨kn,hkn⟩:=Ze ((QJb t i i).words.length);obtain⟨cn,hcn⟩:=Ze ((copC t i i).length);rw[hkn] at hke;rw[hcn] at hce hcl;subst hke hce;have HT1:=Zh HC1.o.tb;have HR1:=Zh HC1.o.rb;obtain⟨t0,t1,t2,t3,t4⟩:=QJ HT1.o;obtain⟨c0,c1,c2,c3,c4⟩:=QJ HR1.o;have f0:=(Qa HR1.o).2 0;have f1:=(Qa HR1.o).2 1;have f2:=(Qa HR1.o).2 2;have f3:=(Qa HR1.o).2 3;have f4:=(Qa HR1.o).2 4;have e5:=set5 HR1.o (iv i) (.slice ga gn gc) (iv i) (.slice kka kn kkc) (.slice ca cn cc);have E5:=Zh e5;have HS:=Zh (fun (T:TypeId) (hne:T≠FNT)=>Quc (T:=T) (Qv HR1.o ZO) hne (iv i) (.slice ga gn gc) (iv i) (.slice kka kn kkc) (.slice ca cn cc));have HG5:=Zh (HC1.o.gen.keep (HS.o _ ZD));have HK5:=Zh (HC1.o.kill.keep (HS.o _ ZD));have HC5:=Zh (Qg.same HC1.o.cops.at_ (HS.o CT ZD));have HB5:=Zh (show Below z w (((((wr.setCell ⟨z+1,0,none⟩ (iv i)).setCell ⟨z+1,1,none⟩ (.slice ga gn gc)).setCell ⟨z+1,2,none⟩ (iv i)).setCell ⟨z+1,3,none⟩ (.slice kka kn kkc)).setCell ⟨z+1,4,none⟩ (.slice ca cn cc)) from
     ((((HC1.o.below.setCell (by show z≤z+1;omega) _).setCell (by show z≤z+1;omega) _).setCell (by show z≤z+1;omega) _).setCell (by show z≤z+1;omega) _).setCell (by show z≤z+1;omega) _)
    have hkw:=Zh (show(Qlb t i).kill.width=(i:Int) by rw[←HK.o];exact(Qre t hm i).width);clear e5 hkn hcn;go_wp2;obtain⟨g0,g1,g2,g3,g4⟩:=QJ E5.o;refine bodyPost_ret (v:=.tuple #[.agg #[iv i,.slice ga gn gc,iv i,.slice kka kn kkc,.slice ca cn cc],iv 0]) (by simp[results,Tryz.results74,go_sem,g0,g1,g2,g3,g4]) rfl ⟨.slice ga gn gc,.slice kka kn kkc,.slice ca cn cc,?_,⟨HG5.o,?_,HC5.o⟩,?_⟩
    ·rw[show trV (Qlb t i) (.slice ga gn gc) (.slice kka kn kkc) (.slice ca cn cc)=.agg #[iv t.gen.width,.slice ga gn gc,iv (Qlb t i).kill.width,.slice kka kn kkc,.slice ca cn cc] from rfl,hkw.o,hgw]
    ·rw[←HK.o];exact HK5.o
    ·rw[HZ.o];exact HB5.o
   ·obtain⟨b4,o4,cs,rfl,hb4,⟨ru,rfl,hru⟩,hrc⟩:=HOC.o i (mkS m (folB t i)) (by unfold Qpi;rw[List.getElem?_map,List.getElem?_range hlt];rfl);have HROK:=Zh (QIb (folB t i) hm:Ok m (mkS m (folB t i)));have g0:=hrc 0 (show 0<2 by decide);have g1:=hrc 1 (show 1<2 by decide);simp only[Qsa,Nat.add_zero,List.getElem?_cons_zero,List.getElem?_cons_succ] at g0 g1;rw[HROK.o.width] at g0;have hb4z:b4<z:=by have:=HZ.o;omega
    have g0:=(HC1.o.below.cell (p:=⟨b4,o4+i*2,none⟩) hb4z).trans g0;have g1:=(HC1.o.below.cell (p:=⟨b4,o4+i*2+1,none⟩) hb4z).trans g1;obtain⟨ra,rc,rfl,-⟩:=hru.cell;have HRU:=Zh hru;obtain⟨rn,hrn⟩:=Ze ((mkS m (folB t i)).words.length);rw[hrn] at g1 HRU;obtain⟨W4,hW4⟩:=Ze (wr.alloc (.cells #[iv m,.slice ra rn rc] ST));obtain⟨sb,hsb⟩:=Ze wr.heap.size;have B4:=Zh (show Below wr.heap.size wr W4 by rw[←hW4];exact Zb);have HS4:=Zh (show W4.heap[sb]? = some (.cells #[iv m,.slice ra rn rc] ST (0,0)) by rw[←hW4,←hsb];exact heap_alloc_new _ _);have HC4:=Zh (HC1.o.next B4.o);have HW4:=Zh hW4;have hsz:z≤sb:=by have:=HC1.o.zw;omega
    have hpsb:p<sb:=by have:=Qb HC1.o.tb;omega
    clear hW4 hru hrn hrc B4;go_upto_region 5 with(fail)
    rw[show wr.alloc (.cells #[iv m,.slice ra rn rc] ST)=W4 from HW4.o]
    try rw[hsb]
    clear g0 g1;obtain⟨s0,s1⟩:=Qq HS4.o;obtain⟨b,hb⟩:=Ze (folB t i i);have KH:=Zh (show Calls Tryz.prog 139 #[.agg #[iv m,.slice ra rn rc],iv i] W4 (Qia b W4) by
     have h1:=QPj (mkS m (folB t i)) i (.slice ra rn rc) W4 (HRU.o.below (HC4.o.zs▸HC4.o.below));rw[QCj HROK.o hlt,Qpb _ hm,show decide (i<m)=true by simpa using hlt,Bool.true_and,hb] at h1;rw[show setV (mkS m (folB t i)) (.slice ra rn rc)=.agg #[iv m,.slice ra rn rc] by rw[←HROK.o.width]] at h1;exact h1)
    have HKS:=Zh (Qoo t hm hlt);rw[hb] at HKS;clear hb;go_upto_if 26 with(go_at_call 139;refine KH.o.mono ?_;rintro e w5 ⟨rfl,b5⟩)
    have HC5:=Zh (HC4.o.next b5);have HS5:=Zh (Qc HS4.o b5 (Qb HS4.o));clear b5 s0 s1 HC4 HS4 HW4 KH;go_cut [5] from 23 to 35 (fun s5 wx=>∃ku:Value,s5=iv i∧Hid (Cls z p m t XV w wx (.slice ga gn gc) ku cu (QJb t m (i+1)) (copC t m i))∧Hid (wx.heap[sb]? = some (.cells #[iv m,.slice ra rn rc] ST (0,0))))
    case first=>
     cases b with
    |true=>
      have HC6:=Zh (show Cls z p m t XV w w5 (.slice ga gn gc) ku cu (QJb t m (i+1)) (copC t m i) by rw[HKS.o,if_pos rfl];exact HC5.o);go_wp2;go_meet
      case rel=>exact⟨_,rfl,HC6.o,HS5.o⟩
    |false=>
      obtain⟨ka,kc,rfl,-⟩:=HC5.o.kill.cell;obtain⟨kn,hkn⟩:=Ze ((QJb t m i).words.length);rw[hkn] at HC5 HC1;have KW:=Zh (show Calls Tryz.prog 140 #[.agg #[iv m,.slice ka kn kc],iv i] w5 (QAd (putS (QJb t m i) i,0) w5) by
       have h1:=QPg (QJb t m i) i (.slice ka kn kc) w5 HC5.o.kill (by have:=HC5.o.zw;omega);rw[show setV (QJb t m i) (.slice ka kn kc)=.agg #[iv m,.slice ka kn kc] by rw[←(Qre t hm i).width]] at h1;rw[show chgS (QJb t m i) (i:Int) true=(putS (QJb t m i) i,0) by
        unfold chgS;rw[if_pos (Qre t hm i).ok,if_pos ⟨by omega,by rw[(Qre t hm i).width];omega⟩];simp] at h1
       exact h1)
      clear hkn;obtain⟨t0,t1,t2,t3,t4⟩:=QJ HC5.o.tb;go_wp2_with fail;refine KW.o.mono ?_;rintro e w6 ⟨fu,rfl,hf,b6⟩;obtain⟨fa,fc,rfl,-⟩:=hf.cell;have PW:(putS (QJb t m i) i).width=(m:Int):=(Qre t hm i).width;obtain⟨fn,hfn⟩:=Ze ((putS (QJb t m i) i).words.length);have HF6:=Zh (hfn▸hf:Qi w6 (.slice fa fn fc) (putS (QJb t m i) i).words);simp only[setV,hfn,PW];have HC6:=Zh (HC5.o.next b6);have HS6:=Zh (Qc HS5.o b6 (Qb HS5.o));have HC7:=Zh (show Cls z p m t XV w ((w6.setCell ⟨p,2,none⟩ (iv m)).setCell ⟨p,3,none⟩ (.slice fa fn fc)) (.slice ga gn gc) (.slice fa fn fc) cu (QJb t m (i+1)) (copC t m i) by
       rw[HKS.o,if_neg ZS];exact HC6.o.turn HF6.o PW)
      have HS7:=Zh (show((w6.setCell ⟨p,2,none⟩ (iv m)).setCell ⟨p,3,none⟩ (.slice fa fn fc)).heap[sb]? = some (.cells #[iv m,.slice ra rn rc] ST (0,0)) by
       rw[Below.heap_setCell _ _ _ _ (by show sb≠p;omega),Below.heap_setCell _ _ _ _ (by show sb≠p;omega)];exact HS6.o)
      clear t0 t1 t2 t3 t4 hf b6 hfn PW;obtain⟨t0,t1,t2,t3,t4⟩:=QJ HC6.o.tb;have f2:=(Qa HC6.o.tb).2 2;have f3:=(Qa HC6.o.tb).2 3;go_wp2;go_meet
      case rel=>exact⟨_,rfl,HC7.o,HS7.o⟩
    case rest=>
     obtain⟨ku,rfl,HC5,HS5⟩:=hcut;obtain⟨s0,s1⟩:=Qq HS5.o;have hxb:=HC5.o.xb;rw[←HXV.o] at hxb;obtain⟨x0,x1,x2⟩:=QVa hxb;obtain⟨r,hr1,hrok,hrb⟩:=QXo HROK.o OK.o.gen;have RB:=Zh hrb;have ROK:=Zh hrok;have KD:=Zh (show Calls Tryz.prog 93 #[.agg #[iv m,.slice ra rn rc],.agg #[iv m,.slice ga gn gc]] wc (SetE (r,0) wc) by
      have h1:=Qbi (mkS m (folB t i)) t.gen (.slice ra rn rc) (.slice ga gn gc) wc (HRU.o.below (HC5.o.zs▸HC5.o.below)) HC5.o.gen;rw[hr1,show setV (mkS m (folB t i)) (.slice ra rn rc)=.agg #[iv m,.slice ra rn rc] by rw[←HROK.o.width],show setV t.gen (.slice ga gn gc)=.agg #[iv m,.slice ga gn gc] by rw[←hgw]] at h1;exact h1)
     clear hr1 hrok hrb hxb;go_wp2_with fail;refine KD.o.mono ?_;rintro e w6 ⟨du,rfl,hd,b6⟩;obtain⟨da,dn,dc,rfl⟩:=hd.shape;have HD6:=Zh hd.words;simp only[setV,ROK.o.width];have HC6:=Zh (HC5.o.next b6);have HS6:=Zh (Qc HS5.o b6 (Qb HS5.o));have hT6:tyAt w6 sb=some ST:=Qv HS6.o ZO;have hT7:tyAt (w6.setCell ⟨sb,0,none⟩ (iv m)) sb=some ST:=by rw[QS];exact hT6
     obtain⟨W7,hW7⟩:=Ze ((w6.setCell ⟨sb,0,none⟩ (iv m)).setCell ⟨sb,1,none⟩ (.slice da dn dc));have HC7:=Zh (show Cls z p m t XV w W7 (.slice ga gn gc) ku cu (QJb t m (i+1)) (copC t m i) by rw[←hW7];exact(HC6.o.off hpsb hT6 0 _).off hpsb hT7 1 _);have HS7:=Zh (show W7.heap[sb]? = some (.cells #[iv m,.slice da dn dc] ST (0,0)) by rw[←hW7];exact Qvb (Qwb HS6.o _) _);have HD7:=Zh (show Qi W7 (.slice da dn dc) r.words by
      rw[←hW7];exact(HD6.o.keep (Qf.setCell (U:=ST) hT6 ZD)).keep (Qf.setCell (U:=ST) hT7 ZD))
     have HW7:=Zh hW7;have KM:=Zh (show Calls Tryz.prog 141 #[.agg #[iv m,.slice da dn dc]] W7 (QWk ((memS r).map fun n:Nat=>(n:Int)) W7) by
      have h1:=Qxl (B:=B) r (.slice da dn dc) W7 HD7.o ((TZ.o.below (HC7.o.below.mono (by have:=HZ.o;omega))).tz) (by have:=HC7.o.zw;have:=HZ.o;omega);rw[show setV r (.slice da dn dc)=.agg #[iv m,.slice da dn dc] by rw[←ROK.o.width]] at h1;exact h1)
     clear s0 s1 x0 x1 x2 hd b6 hW7 hT6 hT7 KD;obtain⟨s0,s1⟩:=Qq HS6.o;have f0:=(Qa HS6.o).2 0;have f1:=(Qa HS6.o).2 1;go_upto_region 8 with(fail)
     rw[show(w6.setCell ⟨sb,0,none⟩ (iv m)).setCell ⟨sb,1,none⟩ (.slice da dn dc)=W7 from HW7.o];clear s0 s1 f0 f1 HC6 HS6 HD6 HW7;obtain⟨s0,s1⟩:=Qq HS7.o;go_wp2_with fail;refine KM.o.mono ?_;rintro e w8 ⟨mv,rfl,hmv,b8⟩;have HC8:=Zh (HC7.o.next b8);have HMV:=Zh hmv;obtain⟨ma,mc,rfl,hml,-⟩:=hmv.cell;rw[List.length_map] at hml ⊢;rw[List.length_map] at HMV;obtain⟨ml,hmlE⟩:=Ze ((memS r).length);rw[hmlE] at HMV hml ⊢;have HMLE:=Zh hmlE;clear hmv b8 s0 s1 HC7 HS7 HD7 KM HC5 HS5 hmlE;unfold maxLen at hml;obtain⟨wd,rfl⟩:∃x:World,x=wr:=⟨_,rfl⟩;clear HC1;go_wp2;go_loopw [45] (fun y wr=>∃(k:Nat) (cu:Value),k≤ml∧y=.int .i64 k∧Hid (QJa wr (.slice ma ml mc) ((memS r).map fun n:Nat=>(n:Int)))∧Hid (Cls z p m t XV w wr (.slice ga gn gc) ku cu (QJb t m (i+1)) (copC t m i++copK i ((memS r).take k)))) (fun y _=>ml-(intOf y).toNat)
     case atStart=>exact⟨0,cu,Nat.zero_le _,rfl,HMV.o,by unfold Hid;simpa [copK] using HC8.o⟩
     case round=>
      obtain⟨k,cu,hk,rfl,HI,HCk⟩:=hrel;by_cases hlk:k<ml;rotate_left
      ·obtain rfl:k=ml:=by omega
       have HCE:=Zh (show Cls z p m t XV w wr (.slice ga gn gc) ku cu (QJb t m (i+1)) (copC t m (i+1)) by
        have h1:=HCk.o;rw[List.take_of_length_le (by rw[HMLE.o];exact Nat.le_refl _),QKs (t:=t) ROK.o (fun b=>by rw[RB.o,Qpb _ hm])] at h1;rw[QMk];exact h1)
       go_wp2;go_roundw
       case rel=>exact⟨i+1,_,_,by omega,by go_num,HCE.o⟩
       case measure=>simp[intOf];omega
      ·obtain⟨x,hx⟩:∃x,(memS r)[k]? = some x:=⟨_,List.getElem?_eq_getElem (by rw[HMLE.o];exact hlk)⟩;have HTK:=Zh (show(memS r).take (k+1)=(memS r).take k++[x] by rw[List.take_add_one,hx];rfl);obtain⟨ma',mc',e9,-,-,-,hmc⟩:=HI.o.cell;rw[List.length_map,HMLE.o] at e9;injection e9 with e9 _ e10
       subst e9 e10;obtain⟨b5,o5,rfl,hb5,g5⟩:=hmc k (x:Int) (by rw[List.getElem?_map,hx];rfl);clear hmc hx;by_cases e:x=i
       ·have t1:((x:Int) !=(i:Int))=false:=by simpa using (by exact_mod_cast e:(x:Int)=(i:Int))
        have HC9:=Zh (show Cls z p m t XV w wr (.slice ga gn gc) ku cu (QJb t m (i+1)) (copC t m i++copK i ((memS r).take (k+1))) by
         rw[HTK.o,QLk,if_pos e];exact HCk.o)
        clear e;go_wp2;go_roundw
        case rel=>exact⟨k+1,cu,by omega,by go_num,HI.o,HC9.o⟩
        case measure=>simp[intOf];omega
       ·have t1:((x:Int) !=(i:Int))=true:=by simpa using (fun h=>e (by exact_mod_cast h):¬(x:Int)=(i:Int))
        have HST:=Zh (show copC t m i++copK i ((memS r).take (k+1))=(copC t m i++copK i ((memS r).take k))++[((i:Int),(x:Int))] by
         rw[HTK.o,QLk,if_neg e,List.append_assoc])
        have hD:(copC t m i++copK i ((memS r).take k)).length≤64+ml:=by
         have h1:=Qdn OK.o.len (m:=m) i;have h2:(copK i ((memS r).take k)).length≤ml:=by
          unfold copK;rw[List.length_map];refine Nat.le_trans (List.length_filter_le _ _) ?_;rw[List.length_take];omega
         rw[List.length_append];omega
        obtain⟨D,hDD⟩:=Ze (copC t m i++copK i ((memS r).take k));rw[hDD] at HST hD HCk;have hml2:ml≤256:=by
         rw[←HMLE.o];unfold memS;rw[if_pos ROK.o.ok,ROK.o.width];refine Nat.le_trans (List.length_filter_le _ _) ?_;rw[List.length_range];omega
        have HOC2:=Zh HCk.o.cops;have hzW:=HCk.o.zw;have PUSH:=Zh (show ∀g cap w',w'.ownsRow z CT 2 (.slice (some ⟨g,0,none⟩) (D.length+1) cap) (D.length+1) (QHa D++[iv i,iv x])→wr.grownBy w' cu.ownBlock →
          (Cls z p m t XV w (w'.setCell ⟨p,4,none⟩ (.slice (some ⟨g,0,none⟩) (D.length+1) cap)) (.slice ga gn gc) ku (.slice (some ⟨g,0,none⟩) (D.length+1) cap) (QJb t m (i+1)) (D++[((i:Int),(x:Int))])∧w'.heap[p]? = some (.cells #[iv m,.slice ga gn gc,iv m,ku,cu] FNT (0,0))) ∧
          QJa (w'.setCell ⟨p,4,none⟩ (.slice (some ⟨g,0,none⟩) (D.length+1) cap)) (.slice (some ⟨b5,o5,none⟩) ml mc) ((memS r).map fun n:Nat=>(n:Int)) from fun g cap w' ho hg=>by
         have h1:=HCk.o.push (c:=((i:Int),(x:Int))) ho hg;refine⟨h1,(HI.o.same (Qf.grown hg HOC2.o ZD (by have:=HCk.o.bs;omega))).same (Qf.setCell (U:=FNT) (show tyAt w' p=some FNT from Qv h1.2 (by have:=HCk.o.bs;have:=HCk.o.zp;omega)) ZD)⟩)
        obtain⟨t0,t1',t2,t3,t4⟩:=QJ HCk.o.tb;clear e hDD;go_wp2_with (at_builtin;refine QL [iv i,iv x] rfl _ _ _ rfl z CT _ 2 16 Tryz.underlying53 Qbf rfl ZO _ _ _ HOC2.o rfl rfl rfl rfl (by unfold maxLen;omega) ZO hzW ?_;intro g cap w9 ho hg hzg _;have HP9:=Zh (PUSH.o g cap w9 ho hg);have v2:=(Qa HP9.o.1.2).1 4;have v3:=(Qa HP9.o.1.2).2 4;simp only[Zx,Zy,Zz] at v2;clear ho hg hzg);have HC9:=Zh (HST.o▸HP9.o.1.1);go_roundw
        case rel=>exact⟨k+1,_,by omega,by go_num,HP9.o.2,HC9.o⟩
        case measure=>simp[intOf];omega
end
section
open Go.RowKit
variable [Base]
theorem Qll {w:World}(a b c:Obj):(((w.alloc a).alloc b).alloc c).heap[w.heap.size+1+1]? = some c:=by
 have h:=heap_alloc_new ((w.alloc a).alloc b) c
 simpa using h
abbrev FNA:TypeId:=55
section
variable {z q m:Nat} {tv sv:Array Value} {w0 w w':World} {u:Value} {o:QSet}
end
end
section
open Go.RowKit
variable [Base]
theorem Qja.tw {w:World}{gu ku cu:Value}{t:Qw}(h:Qja w gu ku cu t):QSi t:=⟨h.gen.2,h.kill.2⟩
theorem Qii {w:World}:Qi w (.slice none 0 0) []:=⟨Qg.nil,by simp[QLa]⟩
theorem Qqr {B:Nat}(t:Qw)(gu ku cu:Value)(w:World)(h:Qja w gu ku cu t)(tz:TzIn B w)(hB:B≤w.heap.size):
  Calls Tryz.prog 19 #[trV t gu ku cu] w (QCl (QKg t) w):=by
 have TW:=Zh h.tw;have hbs:Base.b≤w.heap.size:=by have:=tz.bs;omega
 have TZ:=Zh tz;have HT:=Zh h;obtain⟨ga,gc,rfl,-,-,-,-⟩:=h.gen.cell;obtain⟨ka,kc,rfl,-,-,-,-⟩:=h.kill.cell;obtain⟨ca,cc,rfl,-,-,-,-⟩:=h.cops.cell;simp only[trV];obtain⟨gn,hgn⟩:=Ze t.gen.words.length;obtain⟨kn,hkn⟩:=Ze t.kill.words.length;obtain⟨n,hn⟩:=Ze t.cops.length;rw[hgn,hkn,hn] at HT ⊢;obtain⟨z,hz⟩:=Ze w.heap.size;obtain⟨W,hW⟩:=Ze ((w.alloc (.cells #[iv t.gen.width,.slice ga gn gc,iv t.kill.width,.slice ka kn kc,.slice ca n cc] FNA)).alloc (.cells #[iv 0,.slice none 0 0,iv 0,.slice none 0 0,.slice none 0 0] FNA));have HWW:=Zh hW;have HZ:=Zh hz;have BW:=Zh (show Below z w W by rw[←hW,←hz];exact(Zb).alloc ZS _);have HX:=Zh (show W.heap[z]? = some (.cells #[iv t.gen.width,.slice ga gn gc,iv t.kill.width,.slice ka kn kc,.slice ca n cc] FNA (0,0)) by rw[←hW,←hz,Below.heap_alloc _ _ _ ZS];exact heap_alloc_new _ _);have HR:=Zh (show W.heap[z+1]? = some (.cells #[iv 0,.slice none 0 0,iv 0,.slice none 0 0,.slice none 0 0] FNA (0,0)) by rw[←hW,←hz];exact Qda _ _);have HSZ:=Zh (show W.heap.size=z+2 by rw[←hW,←hz];simp);have HTW:=Zh (HT.o.below (HZ.o▸BW.o));have KV:=Zh (Qng t (.slice ga gn gc) (.slice ka kn kc) (.slice ca n cc) W HTW.o);simp only[trV] at KV;clear h tz hW hgn hkn hn;obtain⟨x0,x1,x2,x3,x4⟩:=QJ HX.o;go_enter Tryz.func19,Tryz.ntmps19;go_upto_region 1 with(fail)
 rw[show(w.alloc (.cells #[iv t.gen.width,.slice ga gn gc,iv t.kill.width,.slice ka kn kc,.slice ca n cc] FNA)).alloc (.cells #[iv 0,.slice none 0 0,iv 0,.slice none 0 0,.slice none 0 0] FNA)=W from HWW.o]
 try rw[hz]
 go_wp2_with fail;refine KV.o.mono ?_;rintro e w1 ⟨rfl,b1⟩;have B1:=Zh b1;have HX1:=Zh (Qc HX.o b1 (Qb HX.o));have HR1:=Zh (Qc HR.o b1 (Qb HR.o));have HT1:=Zh (HTW.o.below b1);have BW1:=Zh (BW.o.trans (b1.mono (by have:=HSZ.o;omega)));clear b1 x0 x1 x2 x3 x4 KV;obtain⟨b,hb⟩:=Ze (Qtd t);rw[hb]
 cases b with
|false=>
  have HC:=Zh (show QKg t=(⟨⟨0,[]⟩,⟨0,[]⟩,[]⟩,1) by unfold QKg;rw[hb];rfl);obtain⟨c0,c1,c2,c3,c4⟩:=QJ HR1.o;have f0:=(Qa HR1.o).2 0;have f1:=(Qa HR1.o).2 1;have f2:=(Qa HR1.o).2 2;have f3:=(Qa HR1.o).2 3;have f4:=(Qa HR1.o).2 4;have E5:=Zh (set5 HR1.o (iv 0) (.slice none 0 0) (iv 0) (.slice none 0 0) (.slice none 0 0));have HB5:=Zh (show Below z w (((((w1.setCell ⟨z+1,0,none⟩ (iv 0)).setCell ⟨z+1,1,none⟩ (.slice none 0 0)).setCell ⟨z+1,2,none⟩ (iv 0)).setCell ⟨z+1,3,none⟩ (.slice none 0 0)).setCell ⟨z+1,4,none⟩ (.slice none 0 0)) from
   ((((BW1.o.setCell (by show z≤z+1;omega) _).setCell (by show z≤z+1;omega) _).setCell (by show z≤z+1;omega) _).setCell (by show z≤z+1;omega) _).setCell (by show z≤z+1;omega) _)
  clear hb;go_wp2;obtain⟨g0,g1,g2,g3,g4⟩:=QJ E5.o;refine bodyPost_ret (v:=.tuple #[.agg #[iv 0,.slice none 0 0,iv 0,.slice none 0 0,.slice none 0 0],iv 1]) (by simp[results,Tryz.results19,go_sem,g0,g1,g2,g3,g4]) rfl ?_;rw[HC.o];exact⟨.slice none 0 0,.slice none 0 0,.slice none 0 0,rfl,⟨Qii,Qii,QKc.nil⟩,by rw[HZ.o];exact HB5.o⟩
|true=>
  obtain⟨m,hgw,hok⟩:=QRi hb TW.o;have HOK:=Zh hok;have HC:=Zh (show QKg t=(Qlb t m,0) by unfold QKg;rw[hb,hgw];rfl);have KO:=Zh (QWr m t hok (.slice ga gn gc) (.slice ka kn kc) (.slice ca n cc) w1 HT1.o (by have:=BW1.o.size;omega));simp only[trV] at KO;have HGW:=Zh hgw;clear hb hok hgw;obtain⟨x0,x1,x2,x3,x4⟩:=QJ HX1.o;go_wp2_with fail;refine KO.o.mono ?_;rintro e w2 ⟨ru,ofv,rfl,hru,hrow,b2⟩;have B2:=Zh (BW1.o.trans (b2.mono (by have:=BW1.o.size;omega)));have HR2:=Zh (Qc HR1.o b2 (Qb HR1.o));have KCl:=Zh (Qnr (B:=B) m t HOK.o ru ofv w2 hru hrow (TZ.o.below (B2.o.mono (by have:=HZ.o;omega))) (by have:=B2.o.size;have:=HZ.o;omega));clear hru hrow b2 x0 x1 x2 x3 x4;rw[HGW.o];go_wp2_with fail;refine KCl.o.mono ?_;rintro e w3 ⟨au,bu,cu,rfl,ht,b3⟩;obtain⟨aa,ac,rfl,-,-,-,-⟩:=ht.gen.cell;obtain⟨ba,bc,rfl,-,-,-,-⟩:=ht.kill.cell;obtain⟨da,dc,rfl,-,-,-,-⟩:=ht.cops.cell;simp only[trV];obtain⟨an,han⟩:=Ze ((Qlb t m).gen.words.length);obtain⟨bn,hbn⟩:=Ze ((Qlb t m).kill.words.length);obtain⟨dn,hdn⟩:=Ze ((Qlb t m).cops.length);rw[han,hbn,hdn] at ht ⊢;obtain⟨aw,haw⟩:=Ze ((Qlb t m).gen.width);obtain⟨bw,hbw⟩:=Ze ((Qlb t m).kill.width);rw[haw,hbw];have HAW:=Zh haw;have HBW:=Zh hbw;have HT3:=Zh ht;have B3:=Zh (B2.o.trans (b3.mono (by have:=B2.o.size;omega)));have HR3:=Zh (Qc HR2.o b3 (Qb HR2.o));clear ht b3 han hbn hdn haw hbw;obtain⟨c0,c1,c2,c3,c4⟩:=QJ HR3.o;have f0:=(Qa HR3.o).2 0;have f1:=(Qa HR3.o).2 1;have f2:=(Qa HR3.o).2 2;have f3:=(Qa HR3.o).2 3;have f4:=(Qa HR3.o).2 4;have E5:=Zh (set5 HR3.o (iv aw) (.slice aa an ac) (iv bw) (.slice ba bn bc) (.slice da dn dc));have HS:=Zh (fun (T:TypeId) (hne:T≠FNA)=>Quc (T:=T) (Qv HR3.o (by have:=HZ.o;omega)) hne (iv aw) (.slice aa an ac) (iv bw) (.slice ba bn bc) (.slice da dn dc));have HT5:=Zh (HT3.o.keep (HS.o _ ZD) (HS.o _ ZD));have HB5:=Zh (show Below z w (((((w3.setCell ⟨z+1,0,none⟩ (iv aw)).setCell ⟨z+1,1,none⟩ (.slice aa an ac)).setCell ⟨z+1,2,none⟩ (iv bw)).setCell ⟨z+1,3,none⟩ (.slice ba bn bc)).setCell ⟨z+1,4,none⟩ (.slice da dn dc)) from
   ((((B3.o.setCell (by show z≤z+1;omega) _).setCell (by show z≤z+1;omega) _).setCell (by show z≤z+1;omega) _).setCell (by show z≤z+1;omega) _).setCell (by show z≤z+1;omega) _)
  go_wp2;obtain⟨g0,g1,g2,g3,g4⟩:=QJ E5.o;refine bodyPost_ret (v:=.tuple #[.agg #[iv aw,.slice aa an ac,iv bw,.slice ba bn bc,.slice da dn dc],iv 0]) (by simp[results,Tryz.results19,go_sem,g0,g1,g2,g3,g4]) rfl ?_;rw[HC.o];exact⟨.slice aa an ac,.slice ba bn bc,.slice da dn dc,by rw[show trV (Qlb t m,(0:Int)).1 (.slice aa an ac) (.slice ba bn bc) (.slice da dn dc)=.agg #[iv (Qlb t m).gen.width,.slice aa an ac,iv (Qlb t m).kill.width,.slice ba bn bc,.slice da dn dc] from rfl,HAW.o,HBW.o],HT5.o,by rw[HZ.o];exact HB5.o⟩
end
section
open Go
section
variable {P:Program} {ops:Array Oper} {Q:Exit→Act→World→Prop} {md:Region.Mode}
theorem Qs {K:Act→World→Prop}(i:Nat)(d:Option Tmp)(v:Value)(w':World){oi:Oper}{a:Act}{w:World}(hi:ops[i]? = some oi)(hwant:Region.wanted oi (yielded ops a.tmps)=true)(hrun:(execOp a.eval oi).run P w=.ok (.value v) w')(hd:oi.dst=d)(h:K (a.put d v) w'):wpOp P ops Q i K a w:=by
 subst hd;unfold wpOp;rw[hi];show if Region.wanted oi (yielded ops a.tmps) then _ else _
 rw[if_pos hwant];left;unfold Oper.wp;rw[hrun,Oper.upon_value];exact h
theorem QQ {K:Act→World→Prop}(i:Nat)(d:Option Tmp)(w':World){oi:Oper}{a:Act}{w:World}(hi:ops[i]? = some oi)(hwant:Region.wanted oi (yielded ops a.tmps)=true)(hrun:(execOp a.eval oi).run P w=.ok .skip w')(hd:oi.dst=d)(h:K (a.put d undef) w'):wpOp P ops Q i K a w:=by
 subst hd;unfold wpOp;rw[hi];show if Region.wanted oi (yielded ops a.tmps) then _ else _
 rw[if_pos hwant];left;unfold Oper.wp;rw[hrun,Oper.upon_skip];exact h
theorem Qla {K:Act→World→Prop}(i:Nat)(d:Option Tmp)(fn:FuncId)(vals:Array Value){oi:Oper}{a:Act}{w:World}(hi:ops[i]? = some oi)(hwant:Region.wanted oi (yielded ops a.tmps)=true)(hrun:(execOp a.eval oi).run P w=.ok (.enter fn vals) w)(hd:oi.dst=d)(hc:Calls P fn vals w fun e w'=>∃v,e=.returned v∧K (a.put d v) w'):wpOp P ops Q i K a w:=by
 subst hd;unfold wpOp;rw[hi];show if Region.wanted oi (yielded ops a.tmps) then _ else _
 rw[if_pos hwant];left;unfold Oper.wp;rw[hrun,Oper.upon_enter];refine hc.mono ?_;rintro e w' ⟨v,rfl,h⟩;exact h
end
end
end Go.Proofs.YtijekimobahgpaaGreatDoor
