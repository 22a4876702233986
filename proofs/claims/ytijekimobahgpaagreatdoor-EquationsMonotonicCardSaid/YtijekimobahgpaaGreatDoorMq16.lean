/- A part of the proof. -/
import Derived.Test.YtijekimobahgpaaGreatDoorMq15
set_option linter.unusedVariables false
set_option linter.unusedSimpArgs false
set_option linter.unusedSectionVars false
set_option maxRecDepth 100000
set_option maxHeartbeats 16000000
namespace Go.Proofs.YtijekimobahgpaaGreatDoor
section
open Go.RowKit
variable [Base]
theorem QYo (l:List Nat) (u:Value) (w:World) (h:Qi w u l) (hn:l.length≤1000000):Calls Tryz.prog 91 #[u] w (fun e w'=>∃a c,e=.returned (.slice a l.length c)∧Qi w' (.slice a l.length c) l∧Below w.heap.size w w'):=
 (QXh u l.length (l.map uv) w h.1 (by rw [List.length_map];omega) (QDh l) hn).mono fun e w' ⟨a,c,h1,h2,h3⟩=>⟨a,c,h1,⟨Qg.of_owns h2,h.2⟩,h3⟩
theorem QZg (s:SysS) (v:List QSet) (x:Int):∀(l:List Int) (o:QSet),QPa s v (l++[x]) o=orS (QPa s v l o) (QSc ((s.trans[x.toNat]?).getD ⟨⟨0,[]⟩,⟨0,[]⟩,[]⟩) ((v[x.toNat]?).getD ⟨0,[]⟩)).1
|[],o=>rfl
|y::r,o=>by
  show QPa s v (r++[x]) _=_
  rw [QZg s v x r]
  rfl
structure Rgt (z q m:Nat) (sv:Array Value) (w0 w:World) (u:Value) (o:QSet):Prop where
 zs:w0.heap.size=z
 below:Below z w0 w
 bs:Base.b≤z
 zq:z+2≤q
 sb:w.heap[z]? = some (.cells sv SYT (0,0))
 rb:w.heap[z+1]? = some (.cells #[iv 0,.slice none 0 0] ST (0,0))
 ob:w.heap[q]? = some (.cells #[iv m,u] ST (0,0))
 words:Qi w u o.words
section
variable {z q m:Nat} {sv:Array Value} {w0 w w':World} {u:Value} {o:QSet}
theorem Rgt.next (h:Rgt z q m sv w0 w u o) (b:Below w.heap.size w w'):Rgt z q m sv w0 w' u o:=
 ⟨h.zs,h.below.trans (b.mono (by have:=h.below.size;have:=h.zs;omega)),h.bs,h.zq,Qc h.sb b (Qb h.sb),Qc h.rb b (Qb h.rb),Qc h.ob b (Qb h.ob),h.words.below b⟩
theorem Rgt.zw (h:Rgt z q m sv w0 w u o):z≤w.heap.size:=by have:=h.below.size;have:=h.zs;omega
theorem Rgt.turn (h:Rgt z q m sv w0 w u o) {u2:Value} {o2:QSet} (hu:Qi w u2 o2.words):Rgt z q m sv w0 ((w.setCell ⟨q,0,none⟩ (iv m)).setCell ⟨q,1,none⟩ u2) u2 o2:=by
 have hz:=h.zq;have hb:=h.bs;have keep:∀k ob,w.heap[k]? = some ob→k≠q→((w.setCell ⟨q,0,none⟩ (iv m)).setCell ⟨q,1,none⟩ u2).heap[k]? = some ob:=fun k ob hk hne=>by
  rw [Below.heap_setCell _ _ _ _ hne,Below.heap_setCell _ _ _ _ hne];exact hk
 have hT:tyAt w q=some ST:=Qv h.ob (by omega);have hT2:tyAt (w.setCell ⟨q,0,none⟩ (iv m)) q=some ST:=by rw [QS];exact hT
 exact⟨h.zs,(h.below.setCell (by show z≤q;omega) _).setCell (by show z≤q;omega) _,h.bs,h.zq,keep _ _ h.sb (by omega),keep _ _ h.rb (by omega),Qvb (Qwb h.ob _) _,
  (hu.keep (Qf.setCell (U:=ST) hT (by decide))).keep (Qf.setCell (U:=ST) hT2 (by decide))⟩
theorem Rgt.off (h:Rgt z q m sv w0 w u o) {p:Nat} (hp:q<p) (hT:tyAt w p=some ST) (x0 x1:Value):Rgt z q m sv w0 ((w.setCell ⟨p,0,none⟩ x0).setCell ⟨p,1,none⟩ x1) u o:=by
 have hz:=h.zq;have keep:∀k ob,w.heap[k]? = some ob→k≠p→((w.setCell ⟨p,0,none⟩ x0).setCell ⟨p,1,none⟩ x1).heap[k]? = some ob:=fun k ob hk hne=>by
  rw [Below.heap_setCell _ _ _ _ hne,Below.heap_setCell _ _ _ _ hne];exact hk
 have hT2:tyAt (w.setCell ⟨p,0,none⟩ x0) p=some ST:=by rw [QS];exact hT
 exact⟨h.zs,(h.below.setCell (by show z≤p;omega) _).setCell (by show z≤p;omega) _,h.bs,h.zq,keep _ _ h.sb (by omega),keep _ _ h.rb (by omega),keep _ _ h.ob (by omega),
  (h.words.keep (Qf.setCell (U:=ST) hT (by decide))).keep (Qf.setCell (U:=ST) hT2 (by decide))⟩
end
theorem QSo (s:SysS) (hsw:sysW s) (v:List QSet) (n:Int) (dv tv bv vv:Value) (w:World) (h:QKd w dv tv bv s) (hv:Qoa Qsa w vv v) (hbs:Base.b≤w.heap.size):
  Calls Tryz.prog 36 #[sysV s dv tv bv,vv,iv n] w (QAd (QVb s v n) w):=by
 have HS:=Zh h;have HVV:=Zh hv;obtain⟨da,dc,rfl,-,-,-,hdc⟩:=h.deps.cell;obtain⟨ta,tc,rfl,-,-,-,htc⟩:=h.trans.cell;obtain⟨ba,bc,rfl,-,-,-,hbc⟩:=h.bnds.cell;obtain⟨va,vc,rfl,hvm,-,-,hvc⟩:=hv.cell;obtain⟨dn,hdn⟩:=Ze s.deps.length;obtain⟨tn,htn⟩:=Ze s.trans.length;obtain⟨bn,hbn⟩:=Ze s.bnds.length;obtain⟨vn,hvn⟩:=Ze v.length;rw [hdn,htn,hbn] at HS;rw [hvn] at HVV hvm;obtain⟨sw,hw⟩:=Ze s.width;have HDC:=Zh hdc;have HTC:=Zh htc;have HBC:=Zh hbc;have HVC:=Zh hvc;have HSW:=Zh hsw;have HLEN:=Zh (show s.deps.length=dn∧v.length=vn∧s.width=sw from⟨hdn,hvn,hw⟩);have HLTB:=Zh (And.intro htn hbn);have HVO:=Zh (show ∀x∈v,QLa x.words from fun x hx=>by
  obtain⟨k,hk⟩:=List.mem_iff_getElem?.1 hx;obtain⟨b,off,cs,-,-,⟨u,-,hu⟩,-⟩:=hvc k x hk;exact hu.2)
 simp only [sysV,hdn,htn,hbn,hvn,hw];obtain⟨z,hz⟩:=Ze w.heap.size;obtain⟨W,hW⟩:=Ze ((w.alloc (.cells #[iv sw,.slice da dn dc,.slice ta tn tc,.slice ba bn bc] SYT)).alloc (.cells #[iv 0,.slice none 0 0] ST));have HZ:=Zh hz;have BW:=Zh (show Below z w W by rw [←hW,←hz];exact(Zb).alloc (by simp) _);have HX:=Zh (show W.heap[z]? = some (.cells #[iv sw,.slice da dn dc,.slice ta tn tc,.slice ba bn bc] SYT (0,0)) by rw [←hW,←hz,Below.heap_alloc _ _ _ (by simp)];exact heap_alloc_new _ _);have HR:=Zh (show W.heap[z+1]? = some (.cells #[iv 0,.slice none 0 0] ST (0,0)) by rw [←hW,←hz];exact Qda _ _);have hWs:W.heap.size=z+2:=by rw [←hW,←hz];simp
 have HWW:=Zh hW;have hbz:Base.b≤z:=by omega
 obtain⟨b,hb⟩:=Ze (sysB s);have KV:=Zh (QVh hb (HS.o.below (HZ.o▸BW.o)));simp only [sysV,hw] at KV;have HSB:=Zh hb;have FIN:=Zh (show ∀(er:Int) (w2:World),Hid (QVb s v n=(⟨0,[]⟩,er))→Hid (Below z w w2) →
   QAd (QVb s v n) w (.returned (.tuple #[.agg #[iv 0,.slice none 0 0],iv er])) ((w2.setCell ⟨z+1,0,none⟩ (iv 0)).setCell ⟨z+1,1,none⟩ (.slice none 0 0)) from fun er w2 ha h2=>by
  rw [ha.o];exact⟨.slice none 0 0,rfl,⟨Qg.nil,by simp [QLa]⟩,by rw [HZ.o];exact(h2.o.setCell (by show z≤z+1;omega) _).setCell (by show z≤z+1;omega) _⟩)
 clear h hv hdc htc hbc hvc hsw hdn htn hbn hvn hw hW hb hbs hvm;obtain⟨x0,x1,x2,x3⟩:=Qt HX.o;go_enter Tryz.func36,Tryz.ntmps36;go_upto_region 1 with(fail)
 rw [show(w.alloc (.cells #[iv sw,.slice da dn dc,.slice ta tn tc,.slice ba bn bc] SYT)).alloc (.cells #[iv 0,.slice none 0 0] ST)=W from HWW.o]
 try rw [hz]
 go_wp2_with fail;refine KV.o.mono ?_;rintro e w1 ⟨rfl,b1⟩;have B1:=Zh (BW.o.trans (b1.mono (by omega)));have HX1:=Zh (Qc HX.o b1 (Qb HX.o));have HR1:=Zh (Qc HR.o b1 (Qb HR.o));clear b1 x0 x1 x2 x3 KV
 cases b with
|false=>
  have HA:=Zh (show QVb s v n=(⟨0,[]⟩,1) by
   have e:Qlc s v n=1:=by unfold Qlc;rw [if_pos HSB.o]
   unfold QVb;rw [e];rfl)
  obtain⟨c0,c1⟩:=Qq HR1.o;have f0:=(Qa HR1.o).2 0;have f1:=(Qa HR1.o).2 1;have E5:=Zh (Qvb (Qwb HR1.o (iv 0)) (.slice none 0 0));go_wp2;obtain⟨g0,g1⟩:=Qq E5.o;exact bodyPost_ret (v:=.tuple #[.agg #[iv 0,.slice none 0 0],iv 1]) (by simp [results,Tryz.results36,go_sem,g0,g1]) rfl (FIN.o 1 _ HA B1)
|true=>
  obtain⟨nn,m,hok⟩:=QDr HSB.o HSW.o;obtain rfl:nn=dn:=by have:=hok.deps;have:=HLEN.o.1;omega
  have h1:nn=tn:=by have:=hok.trans;have:=HLTB.o.1;omega
  subst h1;have h1:nn=bn:=by have:=hok.bnds;have:=HLTB.o.2;omega
  subst h1;obtain rfl:sw=(m:Int):=by rw [←HLEN.o.2.2];exact hok.width
  have HOK:=Zh hok;have hn256:=hok.nle;have hm256:=hok.wle;clear hok;have e0:sysB s=true:=HSB.o;by_cases hn0:n<0
  ·have t1:decide (n<0)=true:=by simpa using hn0
   have HA:=Zh (show QVb s v n=(⟨0,[]⟩,9) by
    have e:Qlc s v n=9:=by unfold Qlc;rw [if_neg (by rw [e0];simp),if_pos (.inl hn0)]
    unfold QVb;rw [e];rfl)
   obtain⟨c0,c1⟩:=Qq HR1.o;have f0:=(Qa HR1.o).2 0;have f1:=(Qa HR1.o).2 1;have E5:=Zh (Qvb (Qwb HR1.o (iv 0)) (.slice none 0 0));clear hn0 e0;go_wp2;obtain⟨g0,g1⟩:=Qq E5.o;exact bodyPost_ret (v:=.tuple #[.agg #[iv 0,.slice none 0 0],iv 9]) (by simp [results,Tryz.results36,go_sem,g0,g1]) rfl (FIN.o 9 _ HA B1)
  have t1:decide (n<0)=false:=by simpa using hn0
  obtain⟨k,rfl⟩:=Int.eq_ofNat_of_zero_le (show 0≤n by omega);clear hn0 t1;obtain⟨x0,x1,x2,x3⟩:=Qt HX1.o;by_cases hnn:k<nn;rotate_left
  ·have HA:=Zh (show QVb s v k=(⟨0,[]⟩,9) by
    have e:Qlc s v k=9:=by unfold Qlc;rw [if_neg (by rw [e0];simp),if_pos (.inr (by rw [HLEN.o.1];omega))]
    unfold QVb;rw [e];rfl)
   obtain⟨c0,c1⟩:=Qq HR1.o;have f0:=(Qa HR1.o).2 0;have f1:=(Qa HR1.o).2 1;have E5:=Zh (Qvb (Qwb HR1.o (iv 0)) (.slice none 0 0));clear e0;go_wp2;obtain⟨g0,g1⟩:=Qq E5.o;exact bodyPost_ret (v:=.tuple #[.agg #[iv 0,.slice none 0 0],iv 9]) (by simp [results,Tryz.results36,go_sem,g0,g1]) rfl (FIN.o 9 _ HA B1)
  have e1:¬((k:Int)<0∨(s.deps.length:Int)≤(k:Int)):=by rw [HLEN.o.1];omega
  by_cases hvl:vn=nn;rotate_left
  ·have t1:((vn:Int) !=(nn:Int))=true:=by simp;omega
   have HA:=Zh (show QVb s v k=(⟨0,[]⟩,1) by
    have e:Qlc s v k=1:=by unfold Qlc;rw [if_neg (by rw [e0];simp),if_neg e1,if_pos (.inl (by rw [HLEN.o.1,HLEN.o.2.1];exact hvl))]
    unfold QVb;rw [e];rfl)
   obtain⟨c0,c1⟩:=Qq HR1.o;have f0:=(Qa HR1.o).2 0;have f1:=(Qa HR1.o).2 1;have E5:=Zh (Qvb (Qwb HR1.o (iv 0)) (.slice none 0 0));clear e0 e1 hvl;go_wp2;obtain⟨g0,g1⟩:=Qq E5.o;exact bodyPost_ret (v:=.tuple #[.agg #[iv 0,.slice none 0 0],iv 1]) (by simp [results,Tryz.results36,go_sem,g0,g1]) rfl (FIN.o 1 _ HA B1)
  subst hvl;have hvl2:v.length=s.deps.length:=by rw [HLEN.o.1,HLEN.o.2.1]
  have KH:=Zh (QFo v (.slice va vn vc) w1 (HVV.o.below (HZ.o▸B1.o)));obtain⟨r,hr⟩:=Ze (v.all setB);rw [hr] at KH;have HRR:=Zh hr;have HE0:=Zh (And.intro e0 (And.intro e1 hvl2));have t1:((vn:Int) !=(vn:Int))=false:=by simp
  clear hr e0 e1 hvl2;go_wp2_with fail;refine KH.o.mono ?_;rintro e w2 ⟨rfl,b2⟩;have B2:=Zh (B1.o.trans (b2.mono (by have:=B1.o.size;have:=HZ.o;omega)));have HX2:=Zh (Qc HX1.o b2 (Qb HX1.o));have HR2:=Zh (Qc HR1.o b2 (Qb HR1.o));clear b2 x0 x1 x2 x3 KH t1
  cases r with
 |false=>
   have HA:=Zh (show QVb s v k=(⟨0,[]⟩,1) by
    have e:Qlc s v k=1:=by unfold Qlc;rw [if_neg (by rw [HE0.o.1];simp),if_neg HE0.o.2.1,if_pos (.inr HRR.o)]
    unfold QVb;rw [e];rfl)
   obtain⟨c0,c1⟩:=Qq HR2.o;have f0:=(Qa HR2.o).2 0;have f1:=(Qa HR2.o).2 1;have E5:=Zh (Qvb (Qwb HR2.o (iv 0)) (.slice none 0 0));go_wp2;obtain⟨g0,g1⟩:=Qq E5.o;exact bodyPost_ret (v:=.tuple #[.agg #[iv 0,.slice none 0 0],iv 1]) (by simp [results,Tryz.results36,go_sem,g0,g1]) rfl (FIN.o 1 _ HA B2)
 |true=>
   have KS:=Zh (QRl m v (.slice va vn vc) w2 (HVV.o.below (HZ.o▸B2.o)));obtain⟨r,hr⟩:=Ze (QDe m v);rw [hr] at KS;have HR3:=Zh hr;obtain⟨x0,x1,x2,x3⟩:=Qt HX2.o;clear hr;go_wp2_with fail;refine KS.o.mono ?_;rintro e w3 ⟨rfl,b3⟩;have B3:=Zh (B2.o.trans (b3.mono (by have:=B2.o.size;have:=HZ.o;omega)));have HX3:=Zh (Qc HX2.o b3 (Qb HX2.o));have HR4:=Zh (Qc HR2.o b3 (Qb HR2.o));clear b3 x0 x1 x2 x3 KS
   cases r with
  |false=>
    have HA:=Zh (show QVb s v k=(⟨0,[]⟩,2) by
     have e:Qlc s v k=2:=by
      unfold Qlc;rw [if_neg (by rw [HE0.o.1];simp),if_neg HE0.o.2.1,if_neg (fun h=>by
       rcases h with h|h
       ·exact h HE0.o.2.2
       ·rw [HRR.o] at h;cases h),if_pos (by rw [HLEN.o.2.2];exact HR3.o)]
     unfold QVb;rw [e];rfl)
    obtain⟨c0,c1⟩:=Qq HR4.o;have f0:=(Qa HR4.o).2 0;have f1:=(Qa HR4.o).2 1;have E5:=Zh (Qvb (Qwb HR4.o (iv 0)) (.slice none 0 0));go_wp2;obtain⟨g0,g1⟩:=Qq E5.o;exact bodyPost_ret (v:=.tuple #[.agg #[iv 0,.slice none 0 0],iv 2]) (by simp [results,Tryz.results36,go_sem,g0,g1]) rfl (FIN.o 2 _ HA B3)
  |true=>
    have HVOK:=Zh (show ∀x∈v,Ok m x from fun x hx=>by
     have h1:=HR3.o;unfold QDe at h1;rw [List.all_eq_true] at h1;have h2:=h1 x hx;simp only [Bool.and_eq_true,decide_eq_true_eq] at h2;obtain⟨k2,e,ho⟩:=Qcj h2.1 (HVO.o x hx);obtain rfl:k2=m:=by have:=h2.2;omega
     exact ho)
    have HA:=Zh (show QVb s v k=(QWa s v k,0) by
     have e:Qlc s v k=0:=by
      unfold Qlc;rw [if_neg (by rw [HE0.o.1];simp),if_neg HE0.o.2.1,if_neg (fun h=>by
       rcases h with h|h
       ·exact h HE0.o.2.2
       ·rw [HRR.o] at h;cases h),if_neg (by rw [HLEN.o.2.2,HR3.o];simp)]
     unfold QVb;rw [e];rfl)
    obtain⟨dl,hdl,-,hdl2⟩:=HOK.o.dep hnn;obtain⟨bo,hbo,hbok⟩:=HOK.o.bnd hnn;have HRS:=Zh (show QWa s v k=QPa s v dl bo by unfold QWa;rw [hdl,hbo];rfl);have HDL:=Zh hdl2;have HBO:=Zh hbok;obtain⟨jb,jo,cs,hba,hjb,⟨bu,rfl,hbu⟩,hcs⟩:=HBC.o k bo hbo;obtain⟨bua,buc,rfl,-⟩:=hbu.cell;obtain⟨bun,hbun⟩:=Ze bo.words.length;rw [hbun] at hbu hcs;have g1:=hcs 1 (show 1<2 by decide);simp only [Qsa,List.getElem?_cons_succ,List.getElem?_cons_zero] at g1;have hjz:jb<z:=by have:=HZ.o;omega
    subst hba;obtain⟨lb,lo,cs2,hda,hlb,⟨lu,rfl,hlu⟩,hcs2⟩:=HDC.o k dl hdl;obtain⟨lua,luc,rfl,-,-,-,hlc⟩:=hlu.cell;obtain⟨ln,hln⟩:=Ze dl.length;rw [hln] at hlu hcs2;have k0:=hcs2 0 (show 0<1 by omega);simp only [Qqc,Nat.add_zero,Nat.mul_one,List.getElem?_cons_zero] at k0;have hlz:lb<z:=by have:=HZ.o;omega
    subst hda;have HG1:=Zh (show ∀wx,Below z w wx→wx.cell? ⟨jb,jo+k*2+1,none⟩=some (.slice bua bun buc)∧wx.cell? ⟨lb,lo+k,none⟩=some (.slice lua ln luc) from fun wx b=>⟨(b.cell (p:=⟨jb,jo+k*2+1,none⟩) hjz).trans g1,(b.cell (p:=⟨lb,lo+k,none⟩) hlz).trans k0⟩);have HLC:=Zh hlc;have HLN:=Zh hln;have HBU:=Zh hbu;have hln256:ln≤256:=by rw [←hln];exact Nat.le_trans (QYp (HOK.o.asc _ (List.mem_of_getElem? hdl))) hn256
    have HBUN:=Zh (show bo.words.length≤1000000 by
     obtain⟨q,h1,h2,h3⟩:=Qka hbok.form;rw [h3];unfold Qj;omega)
    have KC:=Zh (show ∀wx,Below z w wx→Calls Tryz.prog 91 #[.slice bua bun buc] wx (fun e w'=>∃a c,e=.returned (.slice a bun c)∧Qi w' (.slice a bun c) bo.words∧Below wx.heap.size wx w') from fun wx b=>by
     have h1:=QYo bo.words (.slice bua bun buc) wx (HBU.o.below (HZ.o▸b)) HBUN.o;rw [hbun] at h1;exact h1)
    clear hdl hbo hdl2 hbok hcs hbu hbun g1 hlu hlc hln hcs2 k0;obtain⟨W9,hW9⟩:∃x:World,x=w3:=⟨_,rfl⟩;subst hW9;go_upto_region 9 with(fail)
    have HSS:=Zh (show ∀w',Below z w w'→Below W9.heap.size W9 w'→(w'.cell? ⟨z,0,none⟩=some (iv m)∧w'.cell? ⟨z,3,none⟩=some (.slice (some ⟨jb,jo,none⟩) vn bc)∧w'.cell? ⟨jb,jo+k*2+1,none⟩=some (.slice bua bun buc)) from fun w' h1 h2=>by
     obtain⟨a0,a1,a2,a3⟩:=Qt (Qc HX3.o h2 (Qb HX3.o));exact⟨a0,a3,(HG1.o w' h1).1⟩)
    have hzW:z+2≤W9.heap.size:=by have:=B3.o.size;have h9:=Qb HR4.o;omega
    have HB9:=Zh (show ∀x,Below W9.heap.size W9 x→Below z w x from fun x b=>B3.o.trans (b.mono (by omega)));have B3d:=Zh (Qp B3.o 1:Below z w (W9.drewN 1));go_cut [8] from 48 to 57 (fun s8 wx=>∃q ua uc,s8=.pointer (some ⟨q,0,none⟩)∧Hid (Rgt z q m #[iv m,.slice (some ⟨lb,lo,none⟩) vn dc,.slice ta vn tc,.slice (some ⟨jb,jo,none⟩) vn bc] w wx (.slice ua bun uc) bo))
    case first=>
     refine QK (S:=fun w'=>w'.cell? ⟨z,0,none⟩=some (iv m)∧w'.cell? ⟨z,3,none⟩=some (.slice (some ⟨jb,jo,none⟩) vn bc)∧w'.cell? ⟨jb,jo+k*2+1,none⟩=some (.slice bua bun buc)) (st:=12) (by kernel_rfl) ?_;have hS0:(fun w':World=>w'.cell? ⟨z,0,none⟩=some (iv m)∧w'.cell? ⟨z,3,none⟩=some (.slice (some ⟨jb,jo,none⟩) vn bc)∧w'.cell? ⟨jb,jo+k*2+1,none⟩=some (.slice bua bun buc)) (W9.drewN 1):=(HSS.o (W9.drewN 1) B3d.o (Qp (Below.refl _ _) 1));refine Zn 0 (some 48) ?v1 hS0 ?run1 ?rest1
     case run1=>intro w hS;obtain⟨s0,s1,s2⟩:=hS;go_simp;rfl
     refine Zn 1 (some 49) ?v2 hS0 ?run2 ?rest2
     case run2=>intro w hS;obtain⟨s0,s1,s2⟩:=hS;go_simp;rfl
     refine Zn 2 (some 50) ?v3 hS0 ?run3 ?rest3
     case run3=>intro w hS;obtain⟨s0,s1,s2⟩:=hS;go_simp;rfl
     refine Zn 3 (some 51) ?v4 hS0 ?run4 ?rest4
     case run4=>intro w hS;obtain⟨s0,s1,s2⟩:=hS;go_simp;rfl
     refine Zn 4 (some 52) ?v5 hS0 ?run5 ?rest5
     case run5=>intro w hS;obtain⟨s0,s1,s2⟩:=hS;go_simp;rfl
     refine Zn 5 (some 53) ?v6 hS0 ?run6 ?rest6
     case run6=>intro w hS;obtain⟨s0,s1,s2⟩:=hS;go_simp;rfl
     refine Zn 6 (some 54) ?v7 hS0 ?run7 ?rest7
     case run7=>intro w hS;obtain⟨s0,s1,s2⟩:=hS;go_simp;rfl
     refine Zn 7 (some 55) ?v8 hS0 ?run8 ?rest8
     case run8=>intro w hS;obtain⟨s0,s1,s2⟩:=hS;go_simp;rfl
     refine Qh (rs:=[8,10]) (by kernel_rfl) (by decide) ?_;intro i hi;have hi2:i=8∨i=10:=by simpa using hi
     clear hi;rcases hi2 with rfl|rfl
     ·refine Qla 8 (some 56) 91 #[.slice bua bun buc] rfl (by kernel_rfl) (by kernel_rfl) rfl ?_;refine(KC.o (W9.drewN 1) (HB9.o _ (Qp (Below.refl _ _) 1))).mono ?_;rintro e m1 ⟨ka,kc,rfl,hk,b1⟩;have BB1:=Zh ((Qp (Below.refl _ _) 1).trans b1:Below W9.heap.size W9 m1);clear hS0;have hS0:=HSS.o _ (HB9.o _ BB1.o) BB1.o;refine⟨_,rfl,fun _=>hS0,?_⟩;refine Zn 9 (some 57) ?vt1 hS0 ?runt1 ?restt1
      case runt1=>intro w hS;obtain⟨s0,s1,s2⟩:=hS;go_simp;rfl
      have AL:=Zh (show Below m1.heap.size m1 (m1.alloc (.cells #[iv 0,.slice none 0 0] ST)) from Zb);have BBV:=Zh (BB1.o.trans (AL.o.mono BB1.o.size):Below W9.heap.size W9 (m1.alloc (.cells #[iv 0,.slice none 0 0] ST)));have HT:=Zh (heap_alloc_new m1 (.cells #[iv 0,.slice none 0 0] ST));have HK:=Zh (hk.below AL.o);have hpz:W9.heap.size≤m1.heap.size:=BB1.o.size;clear hS0;have hS0:=HSS.o _ (HB9.o _ BBV.o) BBV.o;refine QW 10 (some 8) (.pointer (some ⟨m1.heap.size,0,none⟩)) (m1.alloc (.cells #[iv 0,.slice none 0 0] ST)) rfl (by kernel_rfl) (by kernel_rfl) ?rat2 rfl (fun _=>hS0) ?_
      case rat2=>go_simp
      have fz:=Qa HT.o;have f0:=fz.2 0;have f1:=fz.2 1;have c0:=fz.1 0;have c1:=fz.1 1;simp only [Zx,Zy,Zz] at c0 c1;have BBF:=Zh ((BBV.o.setCell hpz (iv m)).setCell hpz (.slice ka bun kc):Below W9.heap.size W9 (((m1.alloc (.cells #[iv 0,.slice none 0 0] ST)).setCell ⟨m1.heap.size,0,none⟩ (iv m)).setCell ⟨m1.heap.size,1,none⟩ (.slice ka bun kc)));have hS1:=HSS.o _ (HB9.o _ BBF.o) BBF.o;refine Qeb 11 none (((m1.alloc (.cells #[iv 0,.slice none 0 0] ST)).setCell ⟨m1.heap.size,0,none⟩ (iv m)).setCell ⟨m1.heap.size,1,none⟩ (.slice ka bun kc)) rfl (by kernel_rfl) (by kernel_rfl) ?rst3 rfl (fun _=>hS1) ?_
      case rst3=>go_simp
      clear hS0;have hS0:=hS1;refine Qu (by kernel_rfl) ?_ _;clear f0 f1 c0 c1 fz hS0 hS1;generalize hA:Act.put _ _ _=A0;simp only [Qba,Qaa,Zu,Zv,Zw] at hA;subst hA;have hTy:tyAt (m1.alloc (.cells #[iv 0,.slice none 0 0] ST)) (m1.heap.size)=some ST:=Qv HT.o (by omega);have hTy2:tyAt ((m1.alloc (.cells #[iv 0,.slice none 0 0] ST)).setCell ⟨m1.heap.size,0,none⟩ (iv m)) (m1.heap.size)=some ST:=by rw [QS];exact hTy
      have HF:=Zh (show Rgt z (m1.heap.size) m #[iv m,.slice (some ⟨lb,lo,none⟩) vn dc,.slice ta vn tc,.slice (some ⟨jb,jo,none⟩) vn bc] w (((m1.alloc (.cells #[iv 0,.slice none 0 0] ST)).setCell ⟨m1.heap.size,0,none⟩ (iv m)).setCell ⟨m1.heap.size,1,none⟩ (.slice ka bun kc)) (.slice ka bun kc) bo from
       ⟨HZ.o,HB9.o _ BBF.o,hbz,by omega,Qc HX3.o BBF.o (Qb HX3.o),Qc HR4.o BBF.o (Qb HR4.o),Qvb (Qwb HT.o (iv m)) (.slice ka bun kc),(HK.o.keep (Qf.setCell (U:=ST) hTy (by decide))).keep (Qf.setCell (U:=ST) hTy2 (by decide))⟩)
      clear hTy hTy2;go_wp2;go_meet
      case rel=>exact⟨_,_,_,rfl,HF.o⟩
     ·refine Qs 10 (some 8) (.pointer (some ⟨W9.heap.size,0,none⟩)) ((W9.drewN 1).alloc (.cells #[iv 0,.slice none 0 0] ST)) rfl (by kernel_rfl) ?rbt4 rfl ?_
      case rbt4=>go_simp
      have BBA:=Zh ((Qp (Below.refl W9.heap.size W9) 1).alloc (Nat.le_refl _) (.cells #[iv 0,.slice none 0 0] ST));clear hS0;have hS0:=HSS.o _ (HB9.o _ BBA.o) BBA.o;refine⟨fun _=>hS0,?_⟩;refine QP 8 (some 56) 91 #[.slice bua bun buc] rfl (by kernel_rfl) (by kernel_rfl) (by kernel_rfl) rfl ?_;refine(KC.o ((W9.drewN 1).alloc (.cells #[iv 0,.slice none 0 0] ST)) (HB9.o _ BBA.o)).mono ?_;rintro e m1 ⟨ka,kc,rfl,hk,b1⟩;have BBV:=Zh (BBA.o.trans (b1.mono (by simp)):Below W9.heap.size W9 m1);have HT:=Zh (Qc (heap_alloc_new ((W9.drewN 1)) (.cells #[iv 0,.slice none 0 0] ST)) b1 (by simp):m1.heap[W9.heap.size]? = _);have HK:=Zh hk;have hpz:W9.heap.size≤W9.heap.size:=Nat.le_refl _;clear hS0;have hS0:=HSS.o _ (HB9.o _ BBV.o) BBV.o;refine⟨_,rfl,fun _=>hS0,?_⟩;refine Zn 9 (some 57) ?vt5 hS0 ?runt5 ?restt5
      case runt5=>intro w hS;obtain⟨s0,s1,s2⟩:=hS;go_simp;rfl
      have fz:=Qa HT.o;have f0:=fz.2 0;have f1:=fz.2 1;have c0:=fz.1 0;have c1:=fz.1 1;simp only [Zx,Zy,Zz] at c0 c1;have BBF:=Zh ((BBV.o.setCell hpz (iv m)).setCell hpz (.slice ka bun kc):Below W9.heap.size W9 ((m1.setCell ⟨W9.heap.size,0,none⟩ (iv m)).setCell ⟨W9.heap.size,1,none⟩ (.slice ka bun kc)));have hS1:=HSS.o _ (HB9.o _ BBF.o) BBF.o;refine Qeb 11 none ((m1.setCell ⟨W9.heap.size,0,none⟩ (iv m)).setCell ⟨W9.heap.size,1,none⟩ (.slice ka bun kc)) rfl (by kernel_rfl) (by kernel_rfl) ?rst6 rfl (fun _=>hS1) ?_
      case rst6=>go_simp
      clear hS0;have hS0:=hS1;refine Qu (by kernel_rfl) ?_ _;clear f0 f1 c0 c1 fz hS0 hS1;generalize hA:Act.put _ _ _=A0;simp only [Qba,Qaa,Zu,Zv,Zw] at hA;subst hA;have hTy:tyAt m1 (W9.heap.size)=some ST:=Qv HT.o (by omega);have hTy2:tyAt (m1.setCell ⟨W9.heap.size,0,none⟩ (iv m)) (W9.heap.size)=some ST:=by rw [QS];exact hTy
      have HF:=Zh (show Rgt z (W9.heap.size) m #[iv m,.slice (some ⟨lb,lo,none⟩) vn dc,.slice ta vn tc,.slice (some ⟨jb,jo,none⟩) vn bc] w ((m1.setCell ⟨W9.heap.size,0,none⟩ (iv m)).setCell ⟨W9.heap.size,1,none⟩ (.slice ka bun kc)) (.slice ka bun kc) bo from
       ⟨HZ.o,HB9.o _ BBF.o,hbz,by omega,Qc HX3.o BBF.o (Qb HX3.o),Qc HR4.o BBF.o (Qb HR4.o),Qvb (Qwb HT.o (iv m)) (.slice ka bun kc),(HK.o.keep (Qf.setCell (U:=ST) hTy (by decide))).keep (Qf.setCell (U:=ST) hTy2 (by decide))⟩)
      clear hTy hTy2;go_wp2;go_meet
      case rel=>exact⟨_,_,_,rfl,HF.o⟩
    case rest=>
     obtain⟨q,ua,uc,rfl,HO⟩:=hcut;clear HX3 HR4 HSS HX1 HX2 HR1 HR2;have hqz:z+2≤q:=HO.o.zq;obtain⟨x0,x1,x2,x3⟩:=Qt HO.o.sb;have k0:=(HG1.o _ HO.o.below).2;go_wp2;clear x0 x1 x2 x3 k0;have HO0:=Zh (show ∃V,Rgt z q m #[iv m,.slice (some ⟨lb,lo,none⟩) vn dc,.slice ta vn tc,.slice (some ⟨jb,jo,none⟩) vn bc] w wc V (QPa s v (dl.take 0) bo) from⟨_,HO.o⟩);obtain⟨SV,hSV⟩:∃v:Array Value,#[iv m,.slice (some ⟨lb,lo,none⟩) vn dc,.slice ta vn tc,.slice (some ⟨jb,jo,none⟩) vn bc]=v:=⟨_,rfl⟩;have HSV:=Zh hSV;rw [hSV] at HO0;clear hSV HO;have HGO:=Zh (show ∀i,Ok m (QPa s v (dl.take i) bo) from fun i=>(Qmj HOK.o (HLEN.o.2.1) HVOK.o (dl.take i) bo (fun x hx=>HDL.o x (List.mem_of_mem_take hx)) HBO.o).1);go_loopw [64] (fun y wr=>∃i:Nat,i≤ln∧y=.int .i64 i∧Hid (∃V,Rgt z q m SV w wr V (QPa s v (dl.take i) bo))) (fun y _=>ln-(intOf y).toNat)
     case atStart=>exact⟨0,Nat.zero_le _,rfl,HO0.o⟩
     case round=>
      obtain⟨i,hi,rfl,HRr⟩:=hrel;obtain⟨V,HV⟩:=HRr.o;have HO1:=Zh HV;clear HRr HV HO0;by_cases hlt:i<ln;rotate_left
      ·obtain rfl:i=ln:=by omega
       have HE:=Zh (show QPa s v (dl.take i) bo=QWa s v k by rw [HRS.o,List.take_of_length_le (by rw [HLN.o];exact Nat.le_refl _)]);obtain⟨oa,oc,rfl,-⟩:=HO1.o.words.cell;obtain⟨on,hon⟩:=Ze ((QPa s v (dl.take i) bo).words.length);rw [hon] at HO1;have HRB:=Zh HO1.o.rb;have hTy:tyAt wr (z+1)=some ST:=Qv HRB.o (by omega);have hTy2:tyAt (wr.setCell ⟨z+1,0,none⟩ (iv m)) (z+1)=some ST:=by rw [QS];exact hTy
       have S5:Qf 139 wr ((wr.setCell ⟨z+1,0,none⟩ (iv m)).setCell ⟨z+1,1,none⟩ (.slice oa on oc)):=(Qf.setCell (U:=ST) hTy (by decide)).trans (Qf.setCell (U:=ST) hTy2 (by decide));have HW5:=Zh (HO1.o.words.keep S5);have HB5:=Zh (show Below z w ((wr.setCell ⟨z+1,0,none⟩ (iv m)).setCell ⟨z+1,1,none⟩ (.slice oa on oc)) from(HO1.o.below.setCell (by show z≤z+1;omega) _).setCell (by show z≤z+1;omega) _);have E5:=Zh (Qvb (Qwb HRB.o (iv m)) (.slice oa on oc));have VW:=Zh (show(QWa s v k).width=(m:Int) by rw [←HE.o];exact(HGO.o i).width);clear hon hTy hTy2 S5;obtain⟨c0,c1⟩:=Qq HRB.o;have f0:=(Qa HRB.o).2 0;have f1:=(Qa HRB.o).2 1;obtain⟨o0,o1⟩:=Qq HO1.o.ob;go_wp2;obtain⟨g0,g1⟩:=Qq E5.o;refine bodyPost_ret (v:=.tuple #[.agg #[iv m,.slice oa on oc],iv 0]) (by simp [results,Tryz.results36,go_sem,g0,g1]) rfl ?_;rw [HA.o];exact⟨.slice oa on oc,by rw [show setV (QWa s v k,(0:Int)).1 (.slice oa on oc)=.agg #[iv (QWa s v k).width,.slice oa on oc] from rfl,VW.o],by show Qi _ _ (QWa s v k).words;rw [←HE.o];exact HW5.o,by rw [HZ.o];exact HB5.o⟩
      ·obtain⟨x,hx⟩:∃x,dl[i]? = some x:=⟨_,List.getElem?_eq_getElem (by rw [HLN.o];exact hlt)⟩;obtain⟨hx0,hx1⟩:=HDL.o x (List.mem_of_getElem? hx);obtain⟨xn,rfl⟩:=Int.eq_ofNat_of_zero_le hx0;have hxn:xn<vn:=by omega
       obtain⟨T,hT⟩:∃t,s.trans[xn]? = some t:=⟨_,List.getElem?_eq_getElem (by rw [HOK.o.trans];exact hxn)⟩;obtain⟨VS,hVS⟩:∃t,v[xn]? = some t:=⟨_,List.getElem?_eq_getElem (by rw [HLEN.o.2.1];exact hxn)⟩;have HTO:=Zh (HOK.o.okT T (List.mem_of_getElem? hT));have HVSO:=Zh (HVOK.o VS (List.mem_of_getElem? hVS));have HSTEP:=Zh (show QPa s v (dl.take (i+1)) bo=orS (QPa s v (dl.take i) bo) (valS T m VS) by
        rw [List.take_add_one,hx];show QPa s v (dl.take i++[(xn:Int)]) bo=_;rw [QZg,Int.toNat_natCast,hT,hVS];show orS _ (QSc T VS).1=_;rw [Qag HTO.o HVSO.o])
       obtain⟨lb2,lo2,hl2,hl2b,l0⟩:=HLC.o i (xn:Int) hx;subst hl2;have hl2z:lb2<z:=by have:=HZ.o;omega
       have l0:=(HO1.o.below.cell (p:=⟨lb2,lo2+i,none⟩) hl2z).trans l0;obtain⟨tb,tof,cs3,hta,htb,⟨gu,ku,cu,rfl,htr⟩,hcs3⟩:=HTC.o xn T hT;subst hta;obtain⟨ga,gc,rfl,-⟩:=htr.gen.cell;obtain⟨ka,kc,rfl,-⟩:=htr.kill.cell;obtain⟨ca,cc,rfl,-⟩:=htr.cops.cell;obtain⟨gn,hgn⟩:=Ze T.gen.words.length;obtain⟨kn,hkn⟩:=Ze T.kill.words.length;obtain⟨cn,hcn⟩:=Ze T.cops.length;rw [hgn,hkn,hcn] at htr hcs3;rw [HTO.o.gen.width,HTO.o.kill.width] at hcs3;obtain⟨vb,vo,cs4,hva,hvb,⟨vu,rfl,hvu⟩,hcs4⟩:=HVC.o xn VS hVS;subst hva;obtain⟨vua,vuc,rfl,-⟩:=hvu.cell;obtain⟨vun,hvun⟩:=Ze VS.words.length;rw [hvun] at hvu hcs4;rw [HVSO.o.width] at hcs4;simp only [trEl] at hcs3;simp only [Qsa] at hcs4;have p0:=hcs3 0 (by decide);have p1:=hcs3 1 (by decide);have p2:=hcs3 2 (by decide);have p3:=hcs3 3 (by decide);have p4:=hcs3 4 (by decide);have q0:=hcs4 0 (by decide);have q1:=hcs4 1 (by decide);simp only [Nat.add_zero,List.getElem?_cons_zero,List.getElem?_cons_succ] at p0 p1 p2 p3 p4 q0 q1;have htz:tb<z:=by have:=HZ.o;omega
       have hvz:vb<z:=by have:=HZ.o;omega
       have HCE:=Zh (show ∀wx,Below z w wx→((wx.cell? ⟨tb,tof+xn*5,none⟩=some (iv m)∧wx.cell? ⟨tb,tof+xn*5+1,none⟩=some (.slice ga gn gc)∧wx.cell? ⟨tb,tof+xn*5+2,none⟩=some (iv m)∧wx.cell? ⟨tb,tof+xn*5+3,none⟩=some (.slice ka kn kc)∧wx.cell? ⟨tb,tof+xn*5+4,none⟩=some (.slice ca cn cc)) ∧
         (wx.cell? ⟨vb,vo+xn*2,none⟩=some (iv m)∧wx.cell? ⟨vb,vo+xn*2+1,none⟩=some (.slice vua vun vuc))) from fun wx b=>
        ⟨⟨(b.cell (p:=⟨tb,tof+xn*5,none⟩) htz).trans p0,(b.cell (p:=⟨tb,tof+xn*5+1,none⟩) htz).trans p1,(b.cell (p:=⟨tb,tof+xn*5+2,none⟩) htz).trans p2,(b.cell (p:=⟨tb,tof+xn*5+3,none⟩) htz).trans p3,(b.cell (p:=⟨tb,tof+xn*5+4,none⟩) htz).trans p4⟩,
         (b.cell (p:=⟨vb,vo+xn*2,none⟩) hvz).trans q0,(b.cell (p:=⟨vb,vo+xn*2+1,none⟩) hvz).trans q1⟩)
       have KA:=Zh (show ∀wx,Below z w wx→Calls Tryz.prog 92 #[.agg #[iv m,.slice ga gn gc,iv m,.slice ka kn kc,.slice ca cn cc],.agg #[iv m,.slice vua vun vuc]] wx (QAd (valS T m VS,0) wx) from fun wx b=>by
        have h1:=QAn T VS (.slice ga gn gc) (.slice ka kn kc) (.slice ca cn cc) (.slice vua vun vuc) wx (htr.below (HZ.o▸b)) (hvu.below (HZ.o▸b)) (by have:=b.size;have:=HZ.o;omega);simp only [trV,setV,HTO.o.gen.width,HTO.o.kill.width,HVSO.o.width] at h1;rw [Qag HTO.o HVSO.o] at h1;exact h1)
       clear hx hT hVS htr hvu hgn hkn hcn hvun hcs3 hcs4 p0 p1 p2 p3 p4 q0 q1 hx0 hx1;go_upto_region 13 with(fail)
       clear l0;obtain⟨WR,hWR⟩:∃x:World,x=wr:=⟨_,rfl⟩;subst hWR;have HSS:=Zh (show ∀w',Below WR.heap.size WR w'→(w'.cell? ⟨z,2,none⟩=some (.slice (some ⟨tb,tof,none⟩) vn tc)∧w'.cell? ⟨tb,tof+xn*5,none⟩=some (iv m)∧w'.cell? ⟨tb,tof+xn*5+1,none⟩=some (.slice ga gn gc)∧w'.cell? ⟨tb,tof+xn*5+2,none⟩=some (iv m)∧w'.cell? ⟨tb,tof+xn*5+3,none⟩=some (.slice ka kn kc)∧w'.cell? ⟨tb,tof+xn*5+4,none⟩=some (.slice ca cn cc)∧w'.cell? ⟨vb,vo+xn*2,none⟩=some (iv m)∧w'.cell? ⟨vb,vo+xn*2+1,none⟩=some (.slice vua vun vuc)) from fun w' h2=>by
        have h3:=(HO1.o.next h2);have h4:=h3.sb;rw [←HSV.o] at h4;obtain⟨-,-,a2,-⟩:=Qt h4;obtain⟨⟨b0,b1,b2,b3,b4⟩,c0,c1⟩:=HCE.o w' h3.below;exact⟨a2,b0,b1,b2,b3,b4,c0,c1⟩)
       go_cut [11,12] from 68 to 80 (fun s11 s12 wx=>∃p ua un uc,s11=.pointer (some ⟨p,0,none⟩)∧s12=iv 0∧Hid (q<p)∧Hid (Rgt z q m SV w wx V (QPa s v (dl.take i) bo))∧Hid (wx.heap[p]? = some (.cells #[iv m,.slice ua un uc] ST (0,0)))∧Hid (Qi wx (.slice ua un uc) (valS T m VS).words))
       case first=>
        refine QK (S:=fun w'=>w'.cell? ⟨z,2,none⟩=some (.slice (some ⟨tb,tof,none⟩) vn tc)∧w'.cell? ⟨tb,tof+xn*5,none⟩=some (iv m)∧w'.cell? ⟨tb,tof+xn*5+1,none⟩=some (.slice ga gn gc)∧w'.cell? ⟨tb,tof+xn*5+2,none⟩=some (iv m)∧w'.cell? ⟨tb,tof+xn*5+3,none⟩=some (.slice ka kn kc)∧w'.cell? ⟨tb,tof+xn*5+4,none⟩=some (.slice ca cn cc)∧w'.cell? ⟨vb,vo+xn*2,none⟩=some (iv m)∧w'.cell? ⟨vb,vo+xn*2+1,none⟩=some (.slice vua vun vuc)) (st:=16) (by kernel_rfl) ?_;have hS0:(fun w':World=>w'.cell? ⟨z,2,none⟩=some (.slice (some ⟨tb,tof,none⟩) vn tc)∧w'.cell? ⟨tb,tof+xn*5,none⟩=some (iv m)∧w'.cell? ⟨tb,tof+xn*5+1,none⟩=some (.slice ga gn gc)∧w'.cell? ⟨tb,tof+xn*5+2,none⟩=some (iv m)∧w'.cell? ⟨tb,tof+xn*5+3,none⟩=some (.slice ka kn kc)∧w'.cell? ⟨tb,tof+xn*5+4,none⟩=some (.slice ca cn cc)∧w'.cell? ⟨vb,vo+xn*2,none⟩=some (iv m)∧w'.cell? ⟨vb,vo+xn*2+1,none⟩=some (.slice vua vun vuc)) (WR.drewN 1):=(HSS.o (WR.drewN 1) (Qp (Below.refl _ _) 1));refine Zn 0 (some 69) ?v9 hS0 ?run9 ?rest9
        case run9=>intro w hS;obtain⟨s0,s1,s2,s3,s4,s5,s6,s7⟩:=hS;go_simp;rfl
        refine Zn 1 (some 70) ?v10 hS0 ?run10 ?rest10
        case run10=>intro w hS;obtain⟨s0,s1,s2,s3,s4,s5,s6,s7⟩:=hS;go_simp;rfl
        refine Zn 2 (some 71) ?v11 hS0 ?run11 ?rest11
        case run11=>intro w hS;obtain⟨s0,s1,s2,s3,s4,s5,s6,s7⟩:=hS;go_simp;rfl
        refine Zn 3 (some 72) ?v12 hS0 ?run12 ?rest12
        case run12=>intro w hS;obtain⟨s0,s1,s2,s3,s4,s5,s6,s7⟩:=hS;go_simp;rfl
        refine Zn 4 (some 73) ?v13 hS0 ?run13 ?rest13
        case run13=>intro w hS;obtain⟨s0,s1,s2,s3,s4,s5,s6,s7⟩:=hS;go_simp;rfl
        refine Zn 5 (some 74) ?v14 hS0 ?run14 ?rest14
        case run14=>intro w hS;obtain⟨s0,s1,s2,s3,s4,s5,s6,s7⟩:=hS;go_simp;rfl
        refine Zn 6 (some 75) ?v15 hS0 ?run15 ?rest15
        case run15=>intro w hS;obtain⟨s0,s1,s2,s3,s4,s5,s6,s7⟩:=hS;go_simp;rfl
        refine Zn 7 (some 76) ?v16 hS0 ?run16 ?rest16
        case run16=>intro w hS;obtain⟨s0,s1,s2,s3,s4,s5,s6,s7⟩:=hS;go_simp;rfl
        refine Zn 8 (some 77) ?v17 hS0 ?run17 ?rest17
        case run17=>intro w hS;obtain⟨s0,s1,s2,s3,s4,s5,s6,s7⟩:=hS;go_simp;rfl
        refine Qh (rs:=[9,13]) (by kernel_rfl) (by decide) ?_;intro i hi;have hi2:i=9∨i=13:=by simpa using hi
        clear hi;rcases hi2 with rfl|rfl
        ·refine Qla 9 (some 78) 92 #[.agg #[iv m,.slice ga gn gc,iv m,.slice ka kn kc,.slice ca cn cc],.agg #[iv m,.slice vua vun vuc]] rfl (by kernel_rfl) (by kernel_rfl) rfl ?_;refine(KA.o (WR.drewN 1) (HO1.o.next (Qp (Below.refl _ _) 1)).below).mono ?_;rintro e m1 ⟨ku,rfl,hk,b1⟩;clear KA;obtain⟨ka,kc2,rfl,-⟩:=hk.cell;obtain⟨kn2,hkn2⟩:=Ze ((valS T m VS).words.length);simp only at hk;rw [hkn2] at hk;rw [show setV (valS T m VS,(0:Int)).1 (.slice ka (valS T m VS,(0:Int)).1.words.length kc2)=.agg #[iv m,.slice ka kn2 kc2] by simp only [setV,hkn2,(QRg T HVSO.o).1.width]];have BB1:=Zh ((Qp (Below.refl _ _) 1).trans b1:Below WR.heap.size WR m1);clear hS0;have hS0:=HSS.o _ BB1.o;refine⟨_,rfl,fun _=>hS0,?_⟩;refine Zn 10 (some 68) ?vt7 hS0 ?runt7 ?restt7
         case runt7=>intro w hS;obtain⟨s0,s1,s2,s3,s4,s5,s6,s7⟩:=hS;go_simp;rfl
         refine Zn 11 (some 79) ?vt8 hS0 ?runt8 ?restt8
         case runt8=>intro w hS;obtain⟨s0,s1,s2,s3,s4,s5,s6,s7⟩:=hS;go_simp;rfl
         refine Zn 12 (some 80) ?vt9 hS0 ?runt9 ?restt9
         case runt9=>intro w hS;obtain⟨s0,s1,s2,s3,s4,s5,s6,s7⟩:=hS;go_simp;rfl
         have AL:=Zh (show Below m1.heap.size m1 (m1.alloc (.cells #[iv 0,.slice none 0 0] ST)) from Zb);have BBV:=Zh (BB1.o.trans (AL.o.mono BB1.o.size):Below WR.heap.size WR (m1.alloc (.cells #[iv 0,.slice none 0 0] ST)));have HT:=Zh (heap_alloc_new m1 (.cells #[iv 0,.slice none 0 0] ST));have HK:=Zh (hk.below AL.o);have hpz:WR.heap.size≤m1.heap.size:=BB1.o.size;clear hS0;have hS0:=HSS.o _ BBV.o;refine QW 13 (some 11) (.pointer (some ⟨m1.heap.size,0,none⟩)) (m1.alloc (.cells #[iv 0,.slice none 0 0] ST)) rfl (by kernel_rfl) (by kernel_rfl) ?rat10 rfl (fun _=>hS0) ?_
         case rat10=>go_simp
         have fz:=Qa HT.o;have f0:=fz.2 0;have f1:=fz.2 1;have c0:=fz.1 0;have c1:=fz.1 1;simp only [Zx,Zy,Zz] at c0 c1;have BBF:=Zh ((BBV.o.setCell hpz (iv m)).setCell hpz (.slice ka kn2 kc2):Below WR.heap.size WR (((m1.alloc (.cells #[iv 0,.slice none 0 0] ST)).setCell ⟨m1.heap.size,0,none⟩ (iv m)).setCell ⟨m1.heap.size,1,none⟩ (.slice ka kn2 kc2)));have hS1:=HSS.o _ BBF.o;refine Qeb 14 none (((m1.alloc (.cells #[iv 0,.slice none 0 0] ST)).setCell ⟨m1.heap.size,0,none⟩ (iv m)).setCell ⟨m1.heap.size,1,none⟩ (.slice ka kn2 kc2)) rfl (by kernel_rfl) (by kernel_rfl) ?rst11 rfl (fun _=>hS1) ?_
         case rst11=>go_simp
         clear hS0;have hS0:=hS1;refine Zn 15 (some 12) ?vt12 hS0 ?runt12 ?restt12
         case runt12=>intro w hS;obtain⟨s0,s1,s2,s3,s4,s5,s6,s7⟩:=hS;go_simp;rfl
         refine Qu (by kernel_rfl) ?_ _;clear f0 f1 c0 c1 fz hS0 hS1;generalize hA:Act.put _ _ _=A0;simp only [Qba,Qaa,Zu,Zv,Zw] at hA;subst hA;have hTy:tyAt (m1.alloc (.cells #[iv 0,.slice none 0 0] ST)) (m1.heap.size)=some ST:=Qv HT.o (by have:=HO1.o.bs;have:=HO1.o.zw;omega);have hTy2:tyAt ((m1.alloc (.cells #[iv 0,.slice none 0 0] ST)).setCell ⟨m1.heap.size,0,none⟩ (iv m)) (m1.heap.size)=some ST:=by rw [QS];exact hTy
         have HQ:=Zh (show q<m1.heap.size by have:=Qb HO1.o.ob;omega);have HF:=Zh ((HO1.o.next BBV.o).off HQ.o hTy (iv m) (.slice ka kn2 kc2));have HF2:=Zh (Qvb (Qwb HT.o (iv m)) (.slice ka kn2 kc2));have HF3:=Zh ((HK.o.keep (Qf.setCell (U:=ST) hTy (by decide))).keep (Qf.setCell (U:=ST) hTy2 (by decide)):Qi (((m1.alloc (.cells #[iv 0,.slice none 0 0] ST)).setCell ⟨m1.heap.size,0,none⟩ (iv m)).setCell ⟨m1.heap.size,1,none⟩ (.slice ka kn2 kc2)) (.slice ka kn2 kc2) (valS T m VS).words);clear hTy hTy2;go_wp2;go_meet
         case rel=>exact⟨_,_,_,_,rfl,rfl,HQ.o,HF.o,HF2.o,HF3.o⟩
        ·refine Qs 13 (some 11) (.pointer (some ⟨WR.heap.size,0,none⟩)) ((WR.drewN 1).alloc (.cells #[iv 0,.slice none 0 0] ST)) rfl (by kernel_rfl) ?rbt13 rfl ?_
         case rbt13=>go_simp
         have BBA:=Zh ((Qp (Below.refl WR.heap.size WR) 1).alloc (Nat.le_refl _) (.cells #[iv 0,.slice none 0 0] ST));clear hS0;have hS0:=HSS.o _ BBA.o;refine⟨fun _=>hS0,?_⟩;refine QP 9 (some 78) 92 #[.agg #[iv m,.slice ga gn gc,iv m,.slice ka kn kc,.slice ca cn cc],.agg #[iv m,.slice vua vun vuc]] rfl (by kernel_rfl) (by kernel_rfl) (by kernel_rfl) rfl ?_;refine(KA.o ((WR.drewN 1).alloc (.cells #[iv 0,.slice none 0 0] ST)) (HO1.o.next BBA.o).below).mono ?_;rintro e m1 ⟨ku,rfl,hk,b1⟩;clear KA;obtain⟨ka,kc2,rfl,-⟩:=hk.cell;obtain⟨kn2,hkn2⟩:=Ze ((valS T m VS).words.length);simp only at hk;rw [hkn2] at hk;rw [show setV (valS T m VS,(0:Int)).1 (.slice ka (valS T m VS,(0:Int)).1.words.length kc2)=.agg #[iv m,.slice ka kn2 kc2] by simp only [setV,hkn2,(QRg T HVSO.o).1.width]];have BBV:=Zh (BBA.o.trans (b1.mono (by simp)):Below WR.heap.size WR m1);have HT:=Zh (Qc (heap_alloc_new ((WR.drewN 1)) (.cells #[iv 0,.slice none 0 0] ST)) b1 (by simp):m1.heap[WR.heap.size]? = _);have HK:=Zh hk;have hpz:WR.heap.size≤WR.heap.size:=Nat.le_refl _;clear hS0;have hS0:=HSS.o _ BBV.o;refine⟨_,rfl,fun _=>hS0,?_⟩;refine Zn 10 (some 68) ?vt14 hS0 ?runt14 ?restt14
         case runt14=>intro w hS;obtain⟨s0,s1,s2,s3,s4,s5,s6,s7⟩:=hS;go_simp;rfl
         refine Zn 11 (some 79) ?vt15 hS0 ?runt15 ?restt15
         case runt15=>intro w hS;obtain⟨s0,s1,s2,s3,s4,s5,s6,s7⟩:=hS;go_simp;rfl
         refine Zn 12 (some 80) ?vt16 hS0 ?runt16 ?restt16
         case runt16=>intro w hS;obtain⟨s0,s1,s2,s3,s4,s5,s6,s7⟩:=hS;go_simp;rfl
         have fz:=Qa HT.o;have f0:=fz.2 0;have f1:=fz.2 1;have c0:=fz.1 0;have c1:=fz.1 1;simp only [Zx,Zy,Zz] at c0 c1;have BBF:=Zh ((BBV.o.setCell hpz (iv m)).setCell hpz (.slice ka kn2 kc2):Below WR.heap.size WR ((m1.setCell ⟨WR.heap.size,0,none⟩ (iv m)).setCell ⟨WR.heap.size,1,none⟩ (.slice ka kn2 kc2)));have hS1:=HSS.o _ BBF.o;refine Qeb 14 none ((m1.setCell ⟨WR.heap.size,0,none⟩ (iv m)).setCell ⟨WR.heap.size,1,none⟩ (.slice ka kn2 kc2)) rfl (by kernel_rfl) (by kernel_rfl) ?rst17 rfl (fun _=>hS1) ?_
         case rst17=>go_simp
         clear hS0;have hS0:=hS1;refine Zn 15 (some 12) ?vt18 hS0 ?runt18 ?restt18
         case runt18=>intro w hS;obtain⟨s0,s1,s2,s3,s4,s5,s6,s7⟩:=hS;go_simp;rfl
         refine Qu (by kernel_rfl) ?_ _;clear f0 f1 c0 c1 fz hS0 hS1;generalize hA:Act.put _ _ _=A0;simp only [Qba,Qaa,Zu,Zv,Zw] at hA;subst hA;have hTy:tyAt m1 (WR.heap.size)=some ST:=Qv HT.o (by have:=HO1.o.bs;have:=HO1.o.zw;omega);have hTy2:tyAt (m1.setCell ⟨WR.heap.size,0,none⟩ (iv m)) (WR.heap.size)=some ST:=by rw [QS];exact hTy
         have HQ:=Zh (show q<WR.heap.size by have:=Qb HO1.o.ob;omega);have HF:=Zh ((HO1.o.next BBV.o).off HQ.o hTy (iv m) (.slice ka kn2 kc2));have HF2:=Zh (Qvb (Qwb HT.o (iv m)) (.slice ka kn2 kc2));have HF3:=Zh ((HK.o.keep (Qf.setCell (U:=ST) hTy (by decide))).keep (Qf.setCell (U:=ST) hTy2 (by decide)):Qi ((m1.setCell ⟨WR.heap.size,0,none⟩ (iv m)).setCell ⟨WR.heap.size,1,none⟩ (.slice ka kn2 kc2)) (.slice ka kn2 kc2) (valS T m VS).words);clear hTy hTy2;go_wp2;go_meet
         case rel=>exact⟨_,_,_,_,rfl,rfl,HQ.o,HF.o,HF2.o,HF3.o⟩
       case rest=>
        obtain⟨p,ua,un,uc,rfl,rfl,HQP,HO2,HP2,HW2⟩:=hcut;obtain⟨oa,oc,rfl,-⟩:=HO2.o.words.cell;obtain⟨on,hon⟩:=Ze ((QPa s v (dl.take i) bo).words.length);rw [hon] at HO2;have hvok:=(QRg T HVSO.o).1;have KU:=Zh (show Calls Tryz.prog 35 #[.agg #[iv m,.slice oa on oc],.agg #[iv m,.slice ua un uc]] wc (SetE (QPa s v (dl.take (i+1)) bo,0) wc) by
         have h1:=Qvf (QPa s v (dl.take i) bo) (valS T m VS) (.slice oa on oc) (.slice ua un uc) wc HO2.o.words HW2.o;rw [QAp (HGO.o i) hvok,←HSTEP.o] at h1;simp only [setV,(HGO.o i).width,hvok.width] at h1;exact h1)
        clear hon hvok;obtain⟨o0,o1⟩:=Qq HO2.o.ob;obtain⟨p0,p1⟩:=Qq HP2.o;go_wp2_with fail;refine KU.o.mono ?_;rintro e w7 ⟨fu,rfl,hf,b7⟩;obtain⟨fa,fn,fc,rfl⟩:=hf.shape;have HF7:=Zh hf.words;simp only [setV,(HGO.o (i+1)).width];have HO7:=Zh (HO2.o.next b7);have HO8:=Zh (HO7.o.turn HF7.o);clear o0 o1 p0 p1 hf b7;obtain⟨o0,o1⟩:=Qq HO7.o.ob;have f0:=(Qa HO7.o.ob).2 0;have f1:=(Qa HO7.o.ob).2 1;go_wp2;go_roundw
        case rel=>exact⟨i+1,by omega,by go_num,⟨_,HO8.o⟩⟩
        case measure=>simp [intOf];omega
end
section
open Go.RowKit
variable [Base]
theorem QCq {n m:Nat} {s:SysS} {v:List QSet} (h:QSd n m s) (hv:v.length=n) (hvo:∀x∈v,Ok m x) {k:Nat} (hk:k<n):QVb s v (k:Int)=(QWa s v k,0):=by
 have he:Qlc s v k=0:=by
  have h1:QDe s.width v=true:=by
   unfold QDe;rw [List.all_eq_true];intro x hx;have:=hvo x hx;simp [this.ok,this.width,h.width]
  have h2:v.all setB=true:=by
   rw [List.all_eq_true];exact fun x hx=>(hvo x hx).ok
  unfold Qlc;rw [h.b,if_neg (by simp),if_neg (by rw [h.deps];omega),if_neg (by rw [hv,h.deps,h2];simp),if_neg (by rw [h1];simp)]
 unfold QVb;rw [if_pos he];rfl
def Qpd (u v:Value):Prop:=∀g,u.ownBlock=some g→v.ownBlock≠some g
theorem Qpd.symm {u v:Value} (h:Qpd u v):Qpd v u:=fun g hg hu=>h g hu hg
theorem Qpd.nil {v:Value}:Qpd (.slice none 0 0) v:=fun g hg=>by simp [Value.ownBlock] at hg
theorem QG.apart {α:Type} {E:Qlg α} {z k sz:Nat} {w w':World} {u v:Value} {l:List α} {U:TypeId} {ys:List Value} (h:QG E z w v l) (ho:w.ownsRow z U sz u k ys) (hg:w.grownBy w' u.ownBlock) (ha:Qpd v u) (hi:∀V∈E.inner,V≠U) (hbs:Base.b≤z):QG E z w' v l:=by
 obtain⟨xss,hy,hx⟩:=h;refine⟨xss,⟨hy.1,?_⟩,hx.mono fun _ _ hc=>E.keep (fun V hV=>Qf.grown hg ho (hi V hV)) hc⟩;rcases hy.2 with hn|⟨g,cap,cur,rfl,hgz,hh,rest⟩
 ·exact .inl hn
 ·refine .inr ⟨g,cap,cur,rfl,hgz,(hg.block g (Qb hh) (fun e=>ha g (by simp [Value.ownBlock]) e.symm)).trans hh,rest⟩
theorem QUd {α:Type} {E:Qlg α} {z:Nat} {w:World} {v:Value} {l:List α} (h:QG E z w v l) {g:Nat} (hg:v.ownBlock=some g):g<w.heap.size:=by
 obtain⟨xss,hy,-⟩:=h;rcases hy.2 with⟨rfl,-⟩|⟨b,cap,cur,rfl,hb,hh,-⟩
 ·simp [Value.ownBlock] at hg
 ·have:b=g:=by simpa [Value.ownBlock] using hg
  subst this;exact Qb hh
structure Th3 (B bt z m:Nat) (w2 wr:World) (dv tv bv va vb vu:Value) (la lb lu:List QSet) (G:List (Nat×Value×QSet)):Prop where
 tape:QZ B wr bt
 but:But bt w2 wr
 sb:wr.heap[z]? = some (.cells #[iv m,dv,tv,bv] SYT (0,0))
 oa:QG Qsa (z+1) wr va la
 ob:QG Qsa (z+1) wr vb lb
 ou:QG Qsa (z+1) wr vu lu
 ab:Qpd va vb
 au:Qpd va vu
 bu:Qpd vb vu
 gd:∀x∈G,wr.heap[x.1]? = some (.cells #[iv m,x.2.1] ST (0,0))∧Qi wr x.2.1 x.2.2.words∧va.ownBlock≠some x.1∧vb.ownBlock≠some x.1∧vu.ownBlock≠some x.1∧z<x.1
 old:bt<z∧w2.heap.size=z
section
variable {B bt z m:Nat} {w2 wr w:World} {dv tv bv va vb vu:Value} {la lb lu:List QSet} {G:List (Nat×Value×QSet)}
theorem Th3.zb (h:Th3 B bt z m w2 wr dv tv bv va vb vu la lb lu G):Base.b≤z:=by have:=h.tape.bs;have:=h.old;omega
theorem Th3.zs (h:Th3 B bt z m w2 wr dv tv bv va vb vu la lb lu G):z+1≤wr.heap.size:=Qb h.sb
theorem Th3.next (h:Th3 B bt z m w2 wr dv tv bv va vb vu la lb lu G) (ht:QZ B w bt) (hb:But bt wr w):Th3 B bt z m w2 w dv tv bv va vb vu la lb lu G:=by
 obtain⟨o1,o2⟩:=h.old;exact⟨ht,h.but.trans hb,(hb.block z (Qb h.sb) (by omega)).trans h.sb,h.oa.but h.tape hb (by omega) (inS (by decide)),h.ob.but h.tape hb (by omega) (inS (by decide)),h.ou.but h.tape hb (by omega) (inS (by decide)),h.ab,h.au,h.bu,
  fun x hx=>by
   obtain⟨g1,g2,g3⟩:=h.gd x hx;exact⟨(hb.block x.1 (Qb g1) (by omega)).trans g1,g2.keep (hb.sameT h.tape (by decide)),g3⟩,h.old⟩
theorem Th3.drew (h:Th3 B bt z m w2 wr dv tv bv va vb vu la lb lu G) (j:Nat):Th3 B bt z m w2 (wr.drewN j) dv tv bv va vb vu la lb lu G:=h.next (h.tape.drewN j) ((But.refl _ _).drewN j)
theorem Th3.below (h:Th3 B bt z m w2 wr dv tv bv va vb vu la lb lu G) (b:Below wr.heap.size wr w):Th3 B bt z m w2 w dv tv bv va vb vu la lb lu G:=h.next (h.tape.below b) ((But.refl _ _).below b)
theorem Th3.only (h:Th3 B bt z m w2 wr dv tv bv va vb vu la lb lu G) {G':List (Nat×Value×QSet)} (hG:∀x∈G',x∈G):Th3 B bt z m w2 wr dv tv bv va vb vu la lb lu G':=
 ⟨h.tape,h.but,h.sb,h.oa,h.ob,h.ou,h.ab,h.au,h.bu,fun x hx=>h.gd x (hG x hx),h.old⟩
theorem Th3.add {w1:World} {G1:List (Nat×Value×QSet)} (h:Th3 B bt z m w2 wr dv tv bv va vb vu la lb lu G) (h1:Th3 B bt z m w2 w1 dv tv bv va vb vu la lb lu G1) {p:Nat} {u:Value} {s:QSet} (hp:w1.heap.size≤p)
  (hh:wr.heap[p]? = some (.cells #[iv m,u] ST (0,0))) (hu:Qi wr u s.words):Th3 B bt z m w2 wr dv tv bv va vb vu la lb lu ((p,u,s)::G):=
 ⟨h.tape,h.but,h.sb,h.oa,h.ob,h.ou,h.ab,h.au,h.bu,fun x hx=>by
  rcases List.mem_cons.1 hx with rfl|hx
  ·exact⟨hh,hu,fun e=>by have:=QUd h1.oa e;omega,fun e=>by have:=QUd h1.ob e;omega,fun e=>by have:=QUd h1.ou e;omega,by have:=h1.zs;show z<p;omega⟩
  ·exact h.gd x hx,h.old⟩
theorem Th3.alloc (h:Th3 B bt z m w2 wr dv tv bv va vb vu la lb lu G) {u:Value} {s:QSet} (hu:Qi wr u s.words):Th3 B bt z m w2 (wr.alloc (.cells #[iv m,u] ST)) dv tv bv va vb vu la lb lu ((wr.heap.size,u,s)::G):=
 (h.next (h.tape.alloc _) ((But.refl _ _).alloc _)).add h (Nat.le_refl _) (heap_alloc_new _ _) (hu.keep Qf.alloc)
theorem Th3.grow {v:Value} {n:Nat} {xs:List Value} (h:Th3 B bt z m w2 wr dv tv bv va vb vu la lb lu G) (ho:wr.ownsRow (z+1) ST 2 v n xs) (hg:wr.grownBy w v.ownBlock) (hv:∀x∈G,v.ownBlock≠some x.1):
  QZ B w bt∧But bt w2 w∧w.heap[z]? = some (.cells #[iv m,dv,tv,bv] SYT (0,0))∧∀x∈G,w.heap[x.1]? = some (.cells #[iv m,x.2.1] ST (0,0))∧Qi w x.2.1 x.2.2.words:=by
 obtain⟨o1,o2⟩:=h.old;have hge:=h.tape.ge;have hzb:=h.zb;have hB:Below (z+1) wr w:=Below.of_grown hg ho h.zs;exact⟨h.tape.keep (hB.block bt (by omega)) (fun k hk=>hB.block k (by omega)) hB.size,
  ⟨hB.os.trans h.but.os,hB.tape.trans h.but.tape,hB.output.trans h.but.output,Nat.le_trans h.but.size hB.size,fun k hk hn=>(hB.block k (by omega)).trans (h.but.block k hk hn)⟩,
  (hB.block z (by omega)).trans h.sb,fun x hx=>by
   obtain⟨g1,g2,-⟩:=h.gd x hx;exact⟨(hg.block x.1 (Qb g1) (fun e=>hv x hx e.symm)).trans g1,g2.keep (Qf.grown hg ho (by decide))⟩⟩
theorem Qdd {v v':Value} {g n c H:Nat} (hv:v'= .slice (some ⟨g,0,none⟩) n c) (h4:v.ownBlock=some g∨g=H) {u:Value} (ha:Qpd v u) (hu:∀b,u.ownBlock=some b→b<H):Qpd v' u:=fun b hb hu2=>by
 subst hv
 have:g=b:=by simpa [Value.ownBlock] using hb
 subst this
 rcases h4 with h4|rfl
 ·exact ha g h4 hu2
 ·have:=hu g hu2;omega
theorem QDj {v v':Value} {g n c H p:Nat} (hv:v'=.slice (some ⟨g,0,none⟩) n c) (h4:v.ownBlock=some g∨g=H) (hp:v.ownBlock≠some p) (hlt:p<H):v'.ownBlock≠some p:=fun hb=>by
 subst hv
 have:g=p:=by simpa [Value.ownBlock] using hb
 subst this
 rcases h4 with h4|rfl
 ·exact hp h4
 ·omega
theorem Th3.pushA {xss:List (List Value)} {g c:Nat} {x:Nat×Value×QSet} (h:Th3 B bt z m w2 wr dv tv bv va vb vu la lb lu G) (hx:x∈G) (hw:x.2.2.width=(m:Int)) (ho:wr.ownsRow (z+1) ST 2 va la.length xss.flatten) (hX:All2 (Qsa.C wr) xss la)
  (ho2:w.ownsRow (z+1) ST 2 (.slice (some ⟨g,0,none⟩) (la.length+1) c) (la.length+1) (xss.flatten++[iv m,x.2.1])) (hg:wr.grownBy w va.ownBlock) (h4:va.ownBlock=some g∨g=wr.heap.size):
  Th3 B bt z m w2 w dv tv bv (.slice (some ⟨g,0,none⟩) (la.length+1) c) vb vu (la++[x.2.2]) lb lu G:=by
 have hzb:=h.zb;have hz1:Base.b≤z+1:=by omega
 obtain⟨h1,h2,h3,h5⟩:=h.grow ho hg (fun y hy=>(h.gd y hy).2.2.1);have hp:=QG.push (E:=Qsa) ho hX hg ho2 ⟨x.2.1,by rw [hw],(h.gd x hx).2.1⟩ (inS (U:=ST) (by decide)) hz1;exact⟨h1,h2,h3,hp,h.ob.apart ho hg h.ab.symm (inS (U:=ST) (by decide)) hz1,h.ou.apart ho hg h.au.symm (inS (U:=ST) (by decide)) hz1,Qdd rfl h4 h.ab (fun b hb=>QUd h.ob hb),Qdd rfl h4 h.au (fun b hb=>QUd h.ou hb),h.bu,fun y hy=>by
  obtain⟨e1,e2,ga,gb,gu,gz⟩:=h.gd y hy;exact⟨(h5 y hy).1,(h5 y hy).2,QDj rfl h4 ga (Qb e1),gb,gu,gz⟩,h.old⟩
theorem Th3.pushB {xss:List (List Value)} {g c:Nat} {x:Nat×Value×QSet} (h:Th3 B bt z m w2 wr dv tv bv va vb vu la lb lu G) (hx:x∈G) (hw:x.2.2.width=(m:Int)) (ho:wr.ownsRow (z+1) ST 2 vb lb.length xss.flatten) (hX:All2 (Qsa.C wr) xss lb)
  (ho2:w.ownsRow (z+1) ST 2 (.slice (some ⟨g,0,none⟩) (lb.length+1) c) (lb.length+1) (xss.flatten++[iv m,x.2.1])) (hg:wr.grownBy w vb.ownBlock) (h4:vb.ownBlock=some g∨g=wr.heap.size):
  Th3 B bt z m w2 w dv tv bv va (.slice (some ⟨g,0,none⟩) (lb.length+1) c) vu la (lb++[x.2.2]) lu G:=by
 have hzb:=h.zb;have hz1:Base.b≤z+1:=by omega
 obtain⟨h1,h2,h3,h5⟩:=h.grow ho hg (fun y hy=>(h.gd y hy).2.2.2.1);have hp:=QG.push (E:=Qsa) ho hX hg ho2 ⟨x.2.1,by rw [hw],(h.gd x hx).2.1⟩ (inS (U:=ST) (by decide)) hz1;exact⟨h1,h2,h3,h.oa.apart ho hg h.ab (inS (U:=ST) (by decide)) hz1,hp,h.ou.apart ho hg h.bu.symm (inS (U:=ST) (by decide)) hz1,(Qdd rfl h4 h.ab.symm (fun b hb=>QUd h.oa hb)).symm,h.au,Qdd rfl h4 h.bu (fun b hb=>QUd h.ou hb),fun y hy=>by
  obtain⟨e1,e2,ga,gb,gu,gz⟩:=h.gd y hy;exact⟨(h5 y hy).1,(h5 y hy).2,ga,QDj rfl h4 gb (Qb e1),gu,gz⟩,h.old⟩
theorem Th3.pushU {xss:List (List Value)} {g c:Nat} {x:Nat×Value×QSet} (h:Th3 B bt z m w2 wr dv tv bv va vb vu la lb lu G) (hx:x∈G) (hw:x.2.2.width=(m:Int)) (ho:wr.ownsRow (z+1) ST 2 vu lu.length xss.flatten) (hX:All2 (Qsa.C wr) xss lu)
  (ho2:w.ownsRow (z+1) ST 2 (.slice (some ⟨g,0,none⟩) (lu.length+1) c) (lu.length+1) (xss.flatten++[iv m,x.2.1])) (hg:wr.grownBy w vu.ownBlock) (h4:vu.ownBlock=some g∨g=wr.heap.size):
  Th3 B bt z m w2 w dv tv bv va vb (.slice (some ⟨g,0,none⟩) (lu.length+1) c) la lb (lu++[x.2.2]) G:=by
 have hzb:=h.zb;have hz1:Base.b≤z+1:=by omega
 obtain⟨h1,h2,h3,h5⟩:=h.grow ho hg (fun y hy=>(h.gd y hy).2.2.2.2.1);have hp:=QG.push (E:=Qsa) ho hX hg ho2 ⟨x.2.1,by rw [hw],(h.gd x hx).2.1⟩ (inS (U:=ST) (by decide)) hz1;exact⟨h1,h2,h3,h.oa.apart ho hg h.au (inS (U:=ST) (by decide)) hz1,h.ob.apart ho hg h.bu (inS (U:=ST) (by decide)) hz1,hp,h.ab,(Qdd rfl h4 h.au.symm (fun b hb=>QUd h.oa hb)).symm,(Qdd rfl h4 h.bu.symm (fun b hb=>QUd h.ob hb)).symm,fun y hy=>by
  obtain⟨e1,e2,ga,gb,gu,gz⟩:=h.gd y hy;exact⟨(h5 y hy).1,(h5 y hy).2,ga,gb,QDj rfl h4 gu (Qb e1),gz⟩,h.old⟩
end
end
end Go.Proofs.YtijekimobahgpaaGreatDoor
