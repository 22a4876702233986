/- A part of the proof. -/
import Derived.Test.YtijekimobahgpaaGreatDoorVa28
set_option linter.unusedVariables false
set_option linter.unusedSimpArgs false
set_option linter.unusedSectionVars false
set_option maxRecDepth 100000
set_option maxHeartbeats 16000000
namespace Go.Proofs.YtijekimobahgpaaGreatDoor
section
open Go.RowKit
variable [Base]
theorem QDg:∀(l:List Int) (a:Int),l.foldl (· + ·) a=a+l.foldl (· + ·) 0
|[],a=>by simp
|x::r,a=>by
  rw[List.foldl_cons,List.foldl_cons,QDg r (a+x),QDg r (0+x)]
  omega
theorem QDn (x:Int)(l:List Int):sumI (x::l)=x+sumI l:=by
 unfold sumI;rw[List.foldl_cons,QDg,Int.zero_add]
theorem QMf (x:List Int)(l:List (List Int)):totI (x::l)=x.length+totI l:=QDn _ _
theorem QTi:∀(a b:List (List Int)),totI (a++b)=totI a+totI b
|[],b=>by show totI b=0+totI b;omega
|x::r,b=>by
  rw[List.cons_append,QMf,QMf,QTi r b]
  omega
theorem Qki:∀l:List (List Int),0≤totI l
|[]=>Int.le_refl _
|x::r=>by
  have:=Qki r
  rw[QMf]
  omega
theorem Qgk {l:List (List Int)}{k:Nat}{x:List Int}(h:l[k]? = some x):totI (l.take (k+1))=totI (l.take k)+x.length:=by
 rw[List.take_add_one,h,QTi]
 congr 1
 show totI [x]=_;rw[QMf];show(x.length:Int)+0=_;omega
theorem Qlp (l:List (List Int))(k:Nat):totI (l.take k)≤totI l:=by
 conv=>rhs;rw[←List.take_append_drop k l]
 rw[QTi];have:=Qki (l.drop k);omega
theorem QRo (s:SysS)(dv tv bv:Value)(w:World)(h:QKd w dv tv bv s):Calls Tryz.prog 18 #[sysV s dv tv bv] w (Qia (sysB s) w):=by
 have HS:=Zh h;obtain⟨da,dc,rfl,hdm,-,-,hdc⟩:=h.deps.cell;obtain⟨ta,tc,rfl,-⟩:=h.trans.cell;obtain⟨ba,bc,rfl,-⟩:=h.bnds.cell;obtain⟨dn,hdn⟩:=Ze s.deps.length;obtain⟨tn,htn⟩:=Ze s.trans.length;obtain⟨bn,hbn⟩:=Ze s.bnds.length;rw[hdn,htn,hbn] at HS;rw[hdn] at hdm;simp only[sysV,hdn,htn,hbn];obtain⟨sw,hsw⟩:=Ze s.width;rw[hsw];have HSB:=Zh (show sysB s=(QLd sw dn&&((decide (tn=dn)&&decide (bn=dn))&&((s.deps.all (ascB dn)&&decide (totI s.deps≤1024))&&(QDe sw s.bnds&&s.trans.all (Qrc sw))))) by unfold sysB;rw[hsw,hdn,htn,hbn]);obtain⟨W,hW⟩:=Ze (w.alloc (.cells #[iv sw,.slice da dn dc,.slice ta tn tc,.slice ba bn bc] SYT));obtain⟨z,hz⟩:=Ze w.heap.size;have BW:=Zh (show Below w.heap.size w W by rw[←hW];exact Zb);have HX:=Zh (show W.heap[z]? = some (.cells #[iv sw,.slice da dn dc,.slice ta tn tc,.slice ba bn bc] SYT (0,0)) by rw[←hW,←hz];exact heap_alloc_new _ _);have HWW:=Zh hW;have HDC:=Zh hdc;have HDN:=Zh hdn;have KSZ:=Zh (Qrq sw dn W);obtain⟨bs,hbs⟩:=Ze (QLd sw dn);rw[hbs] at KSZ HSB;have HBS:=Zh hbs;unfold maxLen at hdm;clear h hdc hdn htn hbn hsw hW hbs;obtain⟨x0,x1,x2,x3⟩:=Qt HX.o;go_enter Tryz.func18,Tryz.ntmps18;go_upto_region 1 with(fail)
 rw[show w.alloc (.cells #[iv sw,.slice da dn dc,.slice ta tn tc,.slice ba bn bc] SYT)=W from HWW.o]
 try rw[hz]
 go_wp2_with fail;refine KSZ.o.mono ?_;rintro e w1 ⟨rfl,b1⟩;have B1:=Zh (BW.o.trans (b1.mono BW.o.size));have HX1:=Zh (Qc HX.o b1 (Qb HX.o));clear b1 x0 x1 x2 x3 KSZ;obtain⟨x0,x1,x2,x3⟩:=Qt HX1.o
 cases bs with
|false=>
  have HF:=Zh (show sysB s=false by rw[HSB.o];rfl);go_wp2;go_ret;exact⟨by rw[HF.o];rfl,B1.o⟩
|true=>
  have hdn2:1≤dn∧dn≤256:=by
   have h1:=HBS.o;unfold QLd at h1;simp only[Bool.and_eq_true,decide_eq_true_eq] at h1;omega
  by_cases ht:tn=dn;rotate_left
  ·have t1:((tn:Int) !=(dn:Int))=true:=by simp;omega
   have HF:=Zh (show sysB s=false by rw[HSB.o];simp[ht]);clear ht;go_wp2;go_ret;exact⟨by rw[HF.o];rfl,B1.o⟩
  have t1:((tn:Int) !=(dn:Int))=false:=by simp;omega
  by_cases hb:bn=dn;rotate_left
  ·have t2:((bn:Int) !=(dn:Int))=true:=by simp;omega
   have HF:=Zh (show sysB s=false by rw[HSB.o];simp[hb]);clear ht hb;go_wp2;go_ret;exact⟨by rw[HF.o];rfl,B1.o⟩
  have t2:((bn:Int) !=(dn:Int))=false:=by simp;omega
  have HSB2:=Zh (show sysB s=((s.deps.all (ascB dn)&&decide (totI s.deps≤1024))&&(QDe sw s.bnds&&s.trans.all (Qrc sw))) by rw[HSB.o];simp[ht,hb]);clear ht hb HSB;go_wp2;clear x0 x1 x2 x3 t1 t2;go_loopw [4,32] (fun y4 y wr=>∃(k:Nat) (E:Int),k≤dn∧y=.int .i64 k∧y4=.int .i64 E∧0≤E∧E≤1024∧Hid (totI (s.deps.take k)=E)∧Hid (Below w.heap.size w wr∧wr.heap[z]? = some (.cells #[iv sw,.slice da dn dc,.slice ta tn tc,.slice ba bn bc] SYT (0,0)))∧Hid (s.deps.all (ascB dn)=(s.deps.drop k).all (ascB dn))) (fun _ y _=>dn-(intOf y).toNat)
  case atStart=>exact⟨0,0,Nat.zero_le _,rfl,rfl,by omega,by omega,rfl,⟨B1.o,HX1.o⟩,by unfold Hid;simp⟩
  case round=>
   obtain⟨k,E,hk,rfl,rfl,hE0,hE1,HE,HB,HA⟩:=hrel;by_cases hlt:k<dn
   ·obtain⟨l,hl⟩:∃l,s.deps[k]? = some l:=⟨_,List.getElem?_eq_getElem (by rw[HDN.o];exact hlt)⟩;obtain⟨jb,jo,cs,rfl,hjb,⟨u,rfl,hu⟩,hcs⟩:=HDC.o k l hl;have g0:=hcs 0 (show 0<1 by omega);simp only[Qqc,Nat.add_zero,Nat.mul_one,List.getElem?_cons_zero] at g0;have g0:=(HB.o.1.cell (p:=⟨jb,jo+k,none⟩) hjb).trans g0;obtain⟨ua,uc,rfl,hum,-⟩:=hu.cell;have KA:=Zh (QQt l (.slice ua l.length uc) dn wr (Qg.same hu (Qf.below HB.o.1)));obtain⟨un,hun⟩:=Ze l.length;have HT:=Zh (Qgk hl);have HLE:=Zh (Qlp s.deps (k+1));have HAD:=Zh (Qzd s.deps k l hl (ascB dn));rw[hun] at g0 hum KA HT;have HUN:=Zh hun;obtain⟨r,hr⟩:=Ze (ascB dn l);rw[hr] at KA HAD;have HR:=Zh hr;clear hl hu hcs hun hr;by_cases hun:un≤dn
    ·have hw:IntKind.i64.wrap (E+(un:Int))=E+(un:Int):=IntWalk.i64_in _ ZO;by_cases hbig:E+(un:Int) > 1024
     ·have t1:decide (E+(un:Int) > 1024)=true:=by simpa using hbig
      have HF:=Zh (show sysB s=false by
       rw[HSB2.o];have h1:¬totI s.deps≤1024:=by have:=HLE.o;have:=HT.o;have:=HE.o;omega
       simp[h1])
      clear hbig;go_wp2;go_ret;exact⟨by rw[HF.o];rfl,HB.o.1⟩
     ·have t1:decide (E+(un:Int) > 1024)=false:=by simpa using hbig
      have HE2:=Zh (show totI (s.deps.take (k+1))=E+un by rw[HT.o,HE.o]);have hE2:E+(un:Int)≤1024:=by omega
      clear hbig
      cases r with
     |false=>
       have HF:=Zh (show sysB s=false by rw[HSB2.o,HA.o,HAD.o];rfl);go_wp2_with fail;refine KA.o.mono ?_;rintro e w2 ⟨rfl,b2⟩;have HB2:=Zh (HB.o.1.trans (b2.mono HB.o.1.size));clear b2;go_wp2;go_ret;exact⟨by rw[HF.o];rfl,HB2.o⟩
     |true=>
       have HA2:=Zh (show s.deps.all (ascB dn)=(s.deps.drop (k+1)).all (ascB dn) by rw[HA.o,HAD.o];rfl);go_wp2_with fail;refine KA.o.mono ?_;rintro e w2 ⟨rfl,b2⟩;have HB2:=Zh (And.intro (HB.o.1.trans (b2.mono HB.o.1.size)) (Qc HB.o.2 b2 (Qb HB.o.2)));clear b2;go_wp2;go_roundw
       case rel=>exact⟨k+1,E+un,by omega,by go_num,by go_num,by omega,by omega,HE2,HB2,HA2⟩
       case measure=>simp[intOf];omega
    ·obtain rfl:r=false:=by
      cases r with
     |false=>rfl
     |true=>exact absurd (QYp HR.o) (by rw[HUN.o];omega)
     have HF:=Zh (show sysB s=false by rw[HSB2.o,HA.o,HAD.o];rfl);obtain⟨X,hX⟩:=Ze (IntKind.i64.wrap (E+(un:Int)));by_cases hbig:X > 1024
     ·have t1:decide (X > 1024)=true:=by simpa using hbig
      clear hbig;go_wp2;go_ret;exact⟨by rw[HF.o];rfl,HB.o.1⟩
     ·have t1:decide (X > 1024)=false:=by simpa using hbig
      clear hbig;go_wp2_with fail;refine KA.o.mono ?_;rintro e w2 ⟨rfl,b2⟩;have HB2:=Zh (HB.o.1.trans (b2.mono HB.o.1.size));clear b2;go_wp2;go_ret;exact⟨by rw[HF.o];rfl,HB2.o⟩
   ·obtain rfl:k=dn:=by omega
    have HSB3:=Zh (show sysB s=(QDe sw s.bnds&&s.trans.all (Qrc sw)) by
     have h1:s.deps.all (ascB k)=true:=by rw[HA.o,List.drop_eq_nil_of_le (by rw[HDN.o];exact Nat.le_refl _)];rfl
     have h2:totI s.deps≤1024:=by
      have h3:=HE.o;rw[List.take_of_length_le (by rw[HDN.o];exact Nat.le_refl _)] at h3;omega
     rw[HSB2.o,h1];simp[h2])
    have HSR:=Zh (HS.o.below HB.o.1);have KS:=Zh (QRl sw s.bnds (.slice ba bn bc) wr HSR.o.bnds);obtain⟨r,hr⟩:=Ze (QDe sw s.bnds);rw[hr] at KS HSB3;clear hr;obtain⟨x0,x1,x2,x3⟩:=Qt HB.o.2;go_wp2_with fail;refine KS.o.mono ?_;rintro e w2 ⟨rfl,b2⟩;have HB2:=Zh (And.intro (HB.o.1.trans (b2.mono HB.o.1.size)) (Qc HB.o.2 b2 (Qb HB.o.2)));have HSR2:=Zh (HSR.o.below b2);clear b2 x0 x1 x2 x3;obtain⟨x0,x1,x2,x3⟩:=Qt HB2.o.2
    cases r with
   |false=>
     have HF:=Zh (show sysB s=false by rw[HSB3.o];rfl);go_wp2;go_ret;exact⟨by rw[HF.o];rfl,HB2.o.1⟩
   |true=>
     have KF:=Zh (QGo s.trans (.slice ta tn tc) sw z w2 HSR2.o.trans x0 (Qb HB2.o.2));have HF:=Zh (show sysB s=s.trans.all (Qrc sw) by rw[HSB3.o];rfl);obtain⟨r,hr⟩:=Ze (s.trans.all (Qrc sw));rw[hr] at KF HF;clear hr;go_wp2_with fail;refine KF.o.mono ?_;rintro e w3 ⟨rfl,b3⟩;have HB3:=Zh (HB2.o.1.trans (b3.mono HB2.o.1.size));clear b3;go_wp2;go_ret;exact⟨by rw[HF.o];simp,HB3.o⟩
theorem QVh {s:SysS}{b:Bool}(hb:sysB s=b){dv tv bv:Value}{w:World}(h:QKd w dv tv bv s):Calls Tryz.prog 18 #[sysV s dv tv bv] w (Qia b w):=hb▸QRo s dv tv bv w h
theorem QTo (s:SysS)(hw:sysW s)(dv tv bv:Value)(w:World)(h:QKd w dv tv bv s):Calls Tryz.prog 60 #[sysV s dv tv bv] w (IntQ (QIg s) w):=by
 have HS:=Zh h;obtain⟨da,dc,rfl,hdm,-,-,hdc⟩:=h.deps.cell;obtain⟨ta,tc,rfl,-⟩:=h.trans.cell;obtain⟨ba,bc,rfl,-⟩:=h.bnds.cell;obtain⟨dn,hdn⟩:=Ze s.deps.length;obtain⟨tn,htn⟩:=Ze s.trans.length;obtain⟨bn,hbn⟩:=Ze s.bnds.length;rw[hdn,htn,hbn] at HS;rw[hdn] at hdm;obtain⟨sw,hsw⟩:=Ze s.width;obtain⟨W,hW⟩:=Ze (w.alloc (.cells #[iv sw,.slice da dn dc,.slice ta tn tc,.slice ba bn bc] SYT));obtain⟨z,hz⟩:=Ze w.heap.size;have BW:=Zh (show Below w.heap.size w W by rw[←hW];exact Zb);have HX:=Zh (show W.heap[z]? = some (.cells #[iv sw,.slice da dn dc,.slice ta tn tc,.slice ba bn bc] SYT (0,0)) by rw[←hW,←hz];exact heap_alloc_new _ _);have HWW:=Zh hW;have HDC:=Zh hdc;have HDN:=Zh hdn;obtain⟨b,hb⟩:=Ze (sysB s);have KV:=Zh (QVh hb (HS.o.below BW.o));simp only[sysV,hdn,htn,hbn,hsw] at KV ⊢;have HE:=Zh (show QIg s=if b=true then totI s.deps else 0 by unfold QIg;rw[hb]);have HOK:=Zh (show b=true→dn≤256∧totI s.deps≤1024 from fun h1=>by
  obtain⟨n,m,ho⟩:=QDr (hb.trans h1) hw;exact⟨by have:=ho.deps;have:=ho.nle;omega,ho.tot⟩)
 unfold maxLen at hdm;clear h hdc hdn htn hbn hsw hW hb hw;obtain⟨x0,x1,x2,x3⟩:=Qt HX.o;go_enter Tryz.func60,Tryz.ntmps60;go_upto_region 1 with(fail)
 rw[show w.alloc (.cells #[iv sw,.slice da dn dc,.slice ta tn tc,.slice ba bn bc] SYT)=W from HWW.o]
 try rw[hz]
 go_wp2_with fail;refine KV.o.mono ?_;rintro e w1 ⟨rfl,b1⟩;have B1:=Zh (BW.o.trans (b1.mono BW.o.size));have HX1:=Zh (Qc HX.o b1 (Qb HX.o));clear b1 x0 x1 x2 x3 KV;obtain⟨x0,x1,x2,x3⟩:=Qt HX1.o
 cases b with
|false=>
  go_wp2;go_ret;exact⟨Qob (show(0:Int)=QIg s by rw[HE.o];rfl),B1.o⟩
|true=>
  have hdn2:=(HOK.o rfl).1;have HTOT:=Zh (HOK.o rfl).2;have HE2:=Zh (show QIg s=totI s.deps by rw[HE.o,if_pos rfl]);clear HE HOK;go_wp2;clear x0 x1 x2 x3;go_loopw [3,11] (fun y4 y wr=>∃(k:Nat) (E:Int),k≤dn∧y=.int .i64 k∧y4=.int .i64 E∧0≤E∧E≤1024∧Hid (totI (s.deps.take k)=E)∧w1=wr) (fun _ y _=>dn-(intOf y).toNat)
  case atStart=>exact⟨0,0,Nat.zero_le _,rfl,rfl,by omega,by omega,rfl,rfl⟩
  case round=>
   obtain⟨k,E,hk,rfl,rfl,hE0,hE1,HT,rfl⟩:=hrel;by_cases hlt:k<dn
   ·obtain⟨l,hl⟩:∃l,s.deps[k]? = some l:=⟨_,List.getElem?_eq_getElem (by rw[HDN.o];exact hlt)⟩;obtain⟨jb,jo,cs,rfl,hjb,⟨u,rfl,hu⟩,hcs⟩:=HDC.o k l hl;have g0:=hcs 0 (show 0<1 by omega);simp only[Qqc,Nat.add_zero,Nat.mul_one,List.getElem?_cons_zero] at g0;have g0:=(B1.o.cell (p:=⟨jb,jo+k,none⟩) hjb).trans g0;obtain⟨ua,uc,rfl,hum,-⟩:=hu.cell;obtain⟨un,hun⟩:=Ze l.length;have HT2:=Qgk hl;have h3:=Qlp s.deps (k+1);rw[hun] at g0 hum HT2;have hE2:E+(un:Int)≤1024:=by have:=HTOT.o;have:=HT.o;omega
    have HT3:=Zh (show totI (s.deps.take (k+1))=E+un by rw[HT2,HT.o]);clear hl hu hcs hun HT2 h3;go_wp2;go_roundw
    case rel=>exact⟨k+1,E+un,by omega,by go_num,by go_num,by omega,by omega,HT3,(by first|rfl|trivial)⟩
    case measure=>simp[intOf];omega
   ·obtain rfl:k=dn:=by omega
    have HF:=Zh (show E=QIg s by
     rw[HE2.o,←HT.o,List.take_of_length_le (by rw[HDN.o];exact Nat.le_refl _)])
    go_wp2;go_ret;exact⟨Qob HF.o,B1.o⟩
end
section
open Go.RowKit
variable [Base]
abbrev PRT:TypeId:=25
theorem QBk (p:List Qo):(Qkc p).length=(QR p).length:=by simp[Qkc]
theorem QCk (p:List Qo):(Qmc p).length=(QR p).length:=by simp[Qmc]
theorem Qqu {B:Nat}{w:World}(kw:KwIn B w)(ef:Qmg B w)(tz:TzIn B w)(hB:B≤w.heap.size)(p:List Qo)(v:Value)(h:QAa w v p)(hf:∀f∈p,∀b∈f.blocks,∀s∈b.stmts,FitS s)(kind:Int):
  Calls Tryz.prog 12 #[.agg #[v],iv kind] w (SysE (ofT p kind) w):=by
 obtain⟨z,hz⟩:=Ze w.heap.size;have hbz:Base.b≤z:=by have:=kw.bs;omega
 have HFA:=Zh (fun (x:World) (b:Below z w x)=>Qjr (kw.keep fun k hk=>b.block k ZO) (by have:=b.size;omega) p v (h.keep (Qf.below (hz▸b)) (Qf.below (hz▸b)) (Qf.below (hz▸b)) (Qf.below (hz▸b))) hf kind);have HBU:=Zh (fun (x:World) (b:Below z w x)=>Qrr (kw.keep fun k hk=>b.block k ZO) (by have:=b.size;omega) p v (h.keep (Qf.below (hz▸b)) (Qf.below (hz▸b)) (Qf.below (hz▸b)) (Qf.below (hz▸b))) hf);have HVA:=Zh (fun (x:World) (b:Below z w x) hv=>QPi (kw.keep fun k hk=>b.block k ZO) (by have:=b.size;omega) p v (h.keep (Qf.below (hz▸b)) (Qf.below (hz▸b)) (Qf.below (hz▸b)) (Qf.below (hz▸b))) hf hv);have HST:=Zh (fun (x:World) (b:Below z w x) n=>Qjk (kw.keep fun k hk=>b.block k ZO) (by have:=b.size;omega) p v (h.keep (Qf.below (hz▸b)) (Qf.below (hz▸b)) (Qf.below (hz▸b)) (Qf.below (hz▸b))) hf n);have HEF:=Zh (show ∀x,Below z w x→Qmg B x from fun x b=>ef.below (b.mono ZO));have HTZ:=Zh (show ∀x,Below z w x→TzIn B x from fun x b=>tz.below (b.mono ZO));obtain⟨a,c,rfl,-,-⟩:=h.cell;obtain⟨n,hl⟩:=Ze p.length;rw[hl] at HFA HBU HVA HST ⊢;obtain⟨W,hW⟩:=Ze ((w.alloc (.cells #[.slice a n c] PRT)).alloc (.cells #[iv 0,.slice none 0 0,.slice none 0 0,.slice none 0 0] SYT));have HWW:=Zh hW;have HZ:=Zh hz;have BW:=Zh (show Below z w W by rw[←hW,←hz];exact(Zb).alloc ZS _);have HP:=Zh (show W.heap[z]? = some (.cells #[.slice a n c] PRT (0,0)) by rw[←hW,←hz,Below.heap_alloc _ _ _ ZS];exact heap_alloc_new _ _);have HR:=Zh (show W.heap[z+1]? = some (.cells #[iv 0,.slice none 0 0,.slice none 0 0,.slice none 0 0] SYT (0,0)) by rw[←hW,←hz];exact Qda _ _);have hWs:W.heap.size=z+2:=by rw[←hW,←hz];simp
 have hBz:B≤z:=by omega
 clear kw ef tz hB h hf hW hl hz;obtain⟨er,her⟩:=Ze (Qxb p kind);have HER:=Zh her;obtain⟨F,hF⟩:=Ze (QC p kind);have HF:=Zh hF;rw[her,hF] at HFA;have x0:=(Qd HP.o).1 0;simp at x0;clear her hF;go_enter Tryz.func12,Tryz.ntmps12;go_upto_region 1 with(fail)
 rw[show(w.alloc (.cells #[.slice a n c] PRT)).alloc (.cells #[iv 0,.slice none 0 0,.slice none 0 0,.slice none 0 0] SYT)=W from HWW.o]
 try rw[HZ.o]
 go_wp2_with fail;refine(HFA.o W BW.o).mono ?_;rintro e w1 ⟨fv,rfl,hfv,b1⟩;have B1:=Zh (BW.o.trans (b1.mono ZO));obtain⟨fa,fc,rfl,-⟩:=QXa hfv;obtain⟨m,hml⟩:=Ze F.length;rw[hml];have HFV:=Zh (hml▸QTb.at_ hfv:Qqd w1 (.slice fa m fc) F);have HML:=Zh hml;have HP1:=Zh (Qc HP.o b1 (Qb HP.o));have HR1:=Zh (Qc HR.o b1 (Qb HR.o));clear hfv b1 hml x0;by_cases he:er=0;rotate_left
 ·have t1:(er != 0)=true:=by simpa using he
  have HOT:=Zh (show ofT p kind=(⟨0,[],[],[]⟩,er) by unfold ofT;rw[HER.o,if_neg he]);obtain⟨c0,c1,c2,c3⟩:=Qt HR1.o;have f0:=(Qa HR1.o).2 0;have f1:=(Qa HR1.o).2 1;have f2:=(Qa HR1.o).2 2;have f3:=(Qa HR1.o).2 3;have E4:=Zh (set4 HR1.o (iv 0) (.slice none 0 0) (.slice none 0 0) (.slice none 0 0));have HB4:=Zh (show Below z w ((((w1.setCell ⟨z+1,0,none⟩ (iv 0)).setCell ⟨z+1,1,none⟩ (.slice none 0 0)).setCell ⟨z+1,2,none⟩ (.slice none 0 0)).setCell ⟨z+1,3,none⟩ (.slice none 0 0)) from
   (((B1.o.setCell (by show z≤z+1;omega) _).setCell (by show z≤z+1;omega) _).setCell (by show z≤z+1;omega) _).setCell (by show z≤z+1;omega) _)
  clear he;go_wp2;obtain⟨g0,g1,g2,g3⟩:=Qt E4.o;refine bodyPost_ret (v:=.tuple #[.agg #[iv 0,.slice none 0 0,.slice none 0 0,.slice none 0 0],iv er]) (by simp[results,Tryz.results12,go_sem,g0,g1,g2,g3]) rfl ?_;rw[HOT.o];exact⟨.slice none 0 0,.slice none 0 0,.slice none 0 0,rfl,⟨Qoa.nil,Qoa.nil,Qoa.nil⟩,by rw[HZ.o];exact HB4.o⟩
 ·subst he;have HFZ:=Zh (Qkb HER.o);have hck:=HFZ.o.1;have HOT:=Zh (show ofT p kind=(QZc p kind,0) by unfold ofT;rw[HER.o,if_pos rfl]);have HOK:=Zh (Qas HER.o);have HBU2:=Zh (show ∃q,q=QFa p∧∀x,Below z w x→Calls Tryz.prog 44 #[.agg #[.slice a n c]] x (Qit p x) from⟨_,rfl,HBU.o⟩);obtain⟨k,hkk,hk4⟩:∃k:Nat,kind=(k:Int)∧k<5:=⟨kind.toNat,by have:=HFZ.o.2;omega,by have:=HFZ.o.2;omega⟩;have hm256:m≤256:=by have:=HFZ.o.2.2.2.2;rw[HF.o,HML.o] at this;exact this
  subst hkk;have x0:=(Qd HP1.o).1 0;simp at x0;go_wp2_with fail;refine(HBU.o w1 B1.o).mono ?_;rintro e w2 ⟨nv,sv',pv,rfl,hnv,hsv,hpv,b2⟩;rw[hck];obtain⟨na,nc,rfl,hN1,-,-,hnc⟩:=hnv.cell;obtain⟨sa,sc,rfl,-⟩:=hsv.cell;obtain⟨pa,pc,rfl,-⟩:=hpv.cell;rw[QBk] at hsv ⊢;rw[QCk] at hpv ⊢;obtain⟨NN,hNN⟩:=Ze ((QR p).length);rw[hNN] at hnv hsv hpv ⊢;have HNN:=Zh hNN;have hN256:NN≤256:=by have:=HOK.o.nle;omega
  have HSV:=Zh hsv;have HPV:=Zh hpv;have HNC:=Zh hnc;have B2:=Zh (B1.o.trans (b2.mono (by have:=B1.o.size;have:=HZ.o;omega)));have HP2:=Zh (Qc HP1.o b2 (Qb HP1.o));have HR2:=Zh (Qc HR1.o b2 (Qb HR1.o));have HF2:=Zh (HFV.o.below b2);obtain⟨gq,hgq⟩:=Ze w2.heap.size;obtain⟨W3,hW3⟩:=Ze (w2.alloc (.cells #[.slice na NN nc,.slice sa NN sc,.slice pa NN pc] GRT));have A3:=Zh (show Below w2.heap.size w2 W3 by rw[←hW3];exact Zb);have HG3:=Zh (show W3.heap[gq]? = some (.cells #[.slice na NN nc,.slice sa NN sc,.slice pa NN pc] GRT (0,0)) by rw[←hW3,←hgq];exact heap_alloc_new _ _);have HP3:=Zh (Qc HP2.o A3.o (Qb HP2.o));have HR3:=Zh (Qc HR2.o A3.o (Qb HR2.o));have HF3:=Zh (HF2.o.below A3.o);have B3:=Zh (B2.o.trans (A3.o.mono (by have:=B2.o.size;have:=HZ.o;omega)):Below z w W3);have HS3:=Zh (HSV.o.below A3.o);have HPR3:=Zh (HPV.o.below A3.o);have HW3:=Zh hW3;have HGQ:=Zh hgq;clear hnv hsv hpv hnc b2 hNN hW3 x0 hN1;go_upto_region 5 with(fail)
  try rw[hgq]
  rw[show w2.alloc (.cells #[.slice na NN nc,.slice sa NN sc,.slice pa NN pc] GRT)=W3 from HW3.o];clear hgq;obtain⟨g0,g1,g2⟩:=QVa HG3.o;go_upto_if 39 with(fail)
  go_cut [10] from 40 to 41 (fun s10 wx=>∃da dc,s10=.slice da NN dc∧W3=wx∧Hid (Qoa Qqc W3 (.slice da NN dc) (if (k:Int)=2 then Qkc p else Qmc p)))
  case first=>
   by_cases h2:(k:Int)=2
   ·have t1:((k:Int)==2)=true:=by simpa using h2
    have HD:=Zh (show Qoa Qqc W3 (.slice sa NN sc) (if (k:Int)=2 then Qkc p else Qmc p) by rw[if_pos h2];exact HS3.o);clear h2;go_wp2;go_meet
    case rel=>exact⟨_,_,rfl,rfl,HD⟩
   ·have t1:((k:Int)==2)=false:=by simpa using h2
    have HD:=Zh (show Qoa Qqc W3 (.slice pa NN pc) (if (k:Int)=2 then Qkc p else Qmc p) by rw[if_neg h2];exact HPR3.o);clear h2;go_wp2;go_meet
    case rel=>exact⟨_,_,rfl,rfl,HD⟩
  case rest=>
   obtain⟨da,dc,rfl,rfl,HD⟩:=hcut;obtain⟨DP,hDP⟩:=Ze ((if (k:Int)=2 then Qkc p else Qmc p));have HDP:=Zh hDP;rw[hDP] at HD;have hdpl:DP.length=NN:=by
    rw[←hDP]
    split
    ·rw[QBk];exact HNN.o
    ·rw[QCk];exact HNN.o
   have HDPL:=Zh hdpl;have KV:=Zh (HVA.o W3 B3.o (Qzb HFZ.o.1).valid);have hZ3:z≤W3.heap.size:=by have:=B3.o.size;have:=HZ.o;omega
   clear hDP hdpl g0 g1 g2;have x0:=(Qd HP3.o).1 0;simp at x0;go_wp2_with fail;refine KV.o.mono ?_;rintro e w4 ⟨vv,rfl,hvv,b4⟩;obtain⟨va,vc,rfl,-⟩:=QXa hvv;obtain⟨vn,hvn⟩:=Ze ((QN p).length);rw[hvn];have HV4:=Zh (show Qea w4 (.slice va vn vc) (QN p) from hvn▸Qg.of_owns hvv);have B4:=Zh (B3.o.trans (b4.mono hZ3));have HP4:=Zh (Qc HP3.o b4 (Qb HP3.o));have HG4:=Zh (Qc HG3.o b4 (Qb HG3.o));have HR4:=Zh (Qc HR3.o b4 (Qb HR3.o));have HF4:=Zh (HF3.o.below b4);have HD4:=Zh (HD.o.below b4);have BN4:=Zh (A3.o.trans (b4.mono A3.o.size));obtain⟨tq,htq⟩:=Ze w4.heap.size;obtain⟨W5,hW5⟩:=Ze (w4.alloc (.cells #[iv k,.slice fa m fc,.slice va vn vc] TBT));have A5:=Zh (show Below w4.heap.size w4 W5 by rw[←hW5];exact Zb);have HT5:=Zh (show W5.heap[tq]? = some (.cells #[iv k,.slice fa m fc,.slice va vn vc] TBT (0,0)) by rw[←hW5,←htq];exact heap_alloc_new _ _);have B5:=Zh (B4.o.trans (A5.o.mono (by have:=B4.o.size;have:=HZ.o;omega)):Below z w W5);have HP5:=Zh (Qc HP4.o A5.o (Qb HP4.o));have HG5:=Zh (Qc HG4.o A5.o (Qb HG4.o));have HR5:=Zh (Qc HR4.o A5.o (Qb HR4.o));have HF5:=Zh (HF4.o.below A5.o);have HV5:=Zh (show Qea W5 (.slice va vn vc) (QN p) from Qg.same HV4.o (Qf.below A5.o));have HD5:=Zh (HD4.o.below A5.o);have BN5:=Zh (BN4.o.trans (A5.o.mono BN4.o.size));have HW5:=Zh hW5;have HTQ:=Zh htq;clear hvv b4 hvn hW5 x0 KV;go_upto_region 9 with(fail)
   try rw[htq]
   rw[show w4.alloc (.cells #[iv k,.slice fa m fc,.slice va vn vc] TBT)=W5 from HW5.o];obtain⟨oq,hoq⟩:=Ze W5.heap.size;obtain⟨W6,hW6⟩:=Ze (W5.alloc (.cells #[iv m,.slice da NN dc,.slice none 0 0,.slice none 0 0] SYT));have A6:=Zh (show Below oq W5 W6 by rw[←hW6,←hoq];exact Zb);have hzoq:z+2≤oq:=by rw[←hoq];have:=Qb HR5.o;omega
   have hgoq:gq<oq:=by rw[←hoq];exact Qb HG5.o
   have htoq:tq<oq:=by rw[←hoq];exact Qb HT5.o
   have HO6:=Zh (show OfS oq m W5 W6 (.slice da NN dc) (.slice none 0 0) (.slice none 0 0) [] [] from
    ⟨by omega,hoq,A6.o,by rw[←hW6,←hoq];exact heap_alloc_new _ _,QG.nil,QG.nil⟩)
   have HW6:=Zh hW6;have HOQ:=Zh hoq;have HBZ:=Zh (show ∀wr,Below oq W5 wr→Below z w wr from fun wr b=>B5.o.trans (b.mono ZO));have HNB:=Zh (show ∀wr,Below oq W5 wr→∀j n,(QR p)[j]? = some n→∃b off,na=some ⟨b,off,none⟩∧wr.cell? ⟨b,off+j*4,none⟩=some (iv n.kind)∧wr.cell? ⟨b,off+j*4+1,none⟩=some (iv n.fn)∧wr.cell? ⟨b,off+j*4+2,none⟩=some (iv n.bl)∧wr.cell? ⟨b,off+j*4+3,none⟩=some (iv n.st) from fun wr bw j n hj=>by
    obtain⟨b,off,e,hb,c0,c1,c2,c3⟩:=HNC.o j n hj;have hb5:b<oq:=by have:=BN5.o.size;have:=HOQ.o;omega
    exact⟨b,off,e,(bw.cell (p:=⟨b,off+j*4,none⟩) hb5).trans ((BN5.o.cell (p:=⟨b,off+j*4,none⟩) hb).trans c0),(bw.cell (p:=⟨b,off+j*4+1,none⟩) hb5).trans ((BN5.o.cell (p:=⟨b,off+j*4+1,none⟩) hb).trans c1),
     (bw.cell (p:=⟨b,off+j*4+2,none⟩) hb5).trans ((BN5.o.cell (p:=⟨b,off+j*4+2,none⟩) hb).trans c2),(bw.cell (p:=⟨b,off+j*4+3,none⟩) hb5).trans ((BN5.o.cell (p:=⟨b,off+j*4+3,none⟩) hb).trans c3)⟩)
   clear htq hW6;go_upto_region 10 with(fail)
   try rw[hoq]
   rw[show W5.alloc (.cells #[iv m,.slice da NN dc,.slice none 0 0,.slice none 0 0] SYT)=W6 from HW6.o];clear hoq;obtain⟨g0,g1,g2⟩:=QVa ((HO6.o.below.block gq hgoq).trans HG5.o);go_wp2;clear g0 g1 g2;go_loopw [54] (fun y wr=>∃i:Nat,i≤NN∧y=.int .i64 i∧Hid (∃tv bv,OfS oq m W5 wr (.slice da NN dc) tv bv (((QR p).take i).mapIdx (QZe p k)) (((QR p).take i).mapIdx fun i _=>bndT p k i))) (fun y _=>NN-(intOf y).toNat)
   case atStart=>exact⟨0,Nat.zero_le _,rfl,⟨_,_,by simpa using HO6.o⟩⟩
   case round=>
    obtain⟨i,hi,rfl,HRr⟩:=hrel;by_cases hlt:i<NN
    ·obtain⟨nd,hnd⟩:∃n,(QR p)[i]? = some n:=⟨_,List.getElem?_eq_getElem (by rw[HNN.o];exact hlt)⟩;obtain⟨tv,bv,HV⟩:=HRr.o;have HO1:=Zh HV;obtain⟨nb,no,rfl,n0,n1,n2,n3⟩:=HNB.o wr HV.below i nd hnd;obtain⟨T,hT⟩:=Ze (QZe p k i nd);have HTT:=Zh (show(((QR p).take (i+1)).mapIdx (QZe p k))=((QR p).take i).mapIdx (QZe p k)++[T] by rw[Qwi _ hnd,hT]);have HBB:=Zh (show(((QR p).take (i+1)).mapIdx fun i _=>bndT p k i)=(((QR p).take i).mapIdx fun i _=>bndT p k i)++[bndT p k i] from Qwi _ hnd);have HTO:=Zh (show OkT m T by rw[←hT,←HML.o,←HF.o];exact Qup HER.o hnd);have HTN:=Zh hT;have HND:=Zh hnd;have hzr:z≤wr.heap.size:=by have:=HO1.o.lt;omega
     have hLT:(((QR p).take i).mapIdx (QZe p k)).length≤256:=by simp;omega
     have hLB:(((QR p).take i).mapIdx fun i _=>bndT p k i).length≤256:=by simp;omega
     obtain⟨TS,hTS⟩:=Ze (((QR p).take i).mapIdx (QZe p k));obtain⟨BS,hBS⟩:=Ze ((((QR p).take i).mapIdx fun i _=>bndT p k i));rw[hTS] at HO1 HTT hLT;rw[hBS] at HO1 HBB hLB;obtain⟨V1,hV1⟩:=Ze (wr.alloc (.cells #[iv nd.kind,iv nd.fn,iv nd.bl,iv nd.st] NT));obtain⟨nq,hnq⟩:=Ze wr.heap.size;have C1:=Zh (show Below nq wr V1 by rw[←hV1,←hnq];exact Zb);have HNQ:=Zh (show V1.heap[nq]? = some (.cells #[iv nd.kind,iv nd.fn,iv nd.bl,iv nd.st] NT (0,0)) by rw[←hV1,←hnq];exact heap_alloc_new _ _);have HV1:=Zh hV1;have HNQS:=Zh hnq;have hoqn:oq<nq:=by have:=HO1.o.lt;omega
     have HBW:=Zh (show ∀wx,Below nq wr wx→Below oq W5 wx from fun wx b=>HO1.o.below.trans (b.mono ZO));have HPX:=Zh (show ∀wx,Below nq wr wx→(wx.heap[z]? = some (.cells #[.slice a n c] PRT (0,0))∧wx.heap[tq]? = some (.cells #[iv k,.slice fa m fc,.slice va vn vc] TBT (0,0))) from fun wx b=>
      ⟨((HBW.o wx b).block z ZO).trans HP5.o,((HBW.o wx b).block tq htoq).trans HT5.o⟩)
     clear HV HRr hT hnd hTS hBS hV1;go_upto_region 13 with(fail)
     try rw[hnq]
     rw[show wr.alloc (.cells #[iv nd.kind,iv nd.fn,iv nd.bl,iv nd.st] NT)=V1 from HV1.o];clear n0 n1 n2 n3 hnq;have KI:=Zh (Qzn m hm256 V1 (by have:=Qb HNQ.o;omega));go_wp2_with fail;refine KI.o.mono ?_;rintro e x1 ⟨iu,ju,cu,rfl,hti,b1⟩;obtain⟨iua,iuc,rfl,-⟩:=hti.gen.cell;obtain⟨jua,juc,rfl,-⟩:=hti.kill.cell;obtain⟨cua,cuc,rfl,-⟩:=hti.cops.cell;obtain⟨iun,hiu⟩:=Ze ((idT m).gen.words.length);obtain⟨jun,hju⟩:=Ze ((idT m).kill.words.length);obtain⟨cun,hcu⟩:=Ze ((idT m).cops.length);simp only at hti;rw[hiu,hju,hcu] at hti;rw[show trV (idT m,(0:Int)).1 (.slice iua (idT m,(0:Int)).1.gen.words.length iuc) (.slice jua (idT m,(0:Int)).1.kill.words.length juc) (.slice cua (idT m,(0:Int)).1.cops.length cuc)=.agg #[iv m,.slice iua iun iuc,iv m,.slice jua jun juc,.slice cua cun cuc] by simp only[trV,hiu,hju,hcu];rfl];have HTI:=Zh hti;have C2:=Zh (C1.o.trans (b1.mono (by have:=Qb HNQ.o;omega)):Below nq wr x1);have HN1:=Zh (Qc HNQ.o b1 (Qb HNQ.o));obtain⟨fq,hfq⟩:=Ze x1.heap.size;obtain⟨V2,hV2⟩:=Ze (x1.alloc (.cells #[iv m,.slice iua iun iuc,iv m,.slice jua jun juc,.slice cua cun cuc] FNA));have A2:=Zh (show Below x1.heap.size x1 V2 by rw[←hV2];exact Zb);have HFQ:=Zh (show V2.heap[fq]? = some (.cells #[iv m,.slice iua iun iuc,iv m,.slice jua jun juc,.slice cua cun cuc] FNA (0,0)) by rw[←hV2,←hfq];exact heap_alloc_new _ _);have C3:=Zh (C2.o.trans (A2.o.mono (by have:=Qb HN1.o;omega)):Below nq wr V2);have HN2:=Zh (Qc HN1.o A2.o (Qb HN1.o));have HTI2:=Zh (HTI.o.below A2.o);have hnf:nq<fq:=by rw[←hfq];exact Qb HN1.o
     have HV2:=Zh hV2;clear hti b1 KI hiu hju hcu hV2 HTI HN1;go_upto_region 14 with(fail)
     try rw[hfq]
     rw[show x1.alloc (.cells #[iv m,.slice iua iun iuc,iv m,.slice jua jun juc,.slice cua cun cuc] FNA)=V2 from HV2.o];clear hfq;have x0:=(Qd (HPX.o V2 C3.o).1).1 0;simp at x0;obtain⟨n0,n1,n2,n3⟩:=Qt HN2.o;have KST:=Zh (HST.o V2 (HBZ.o _ (HBW.o _ C3.o)) nd);obtain⟨so,hso⟩:=Ze (QAf p nd);rw[hso] at KST;have HSO:=Zh hso;clear hso;go_wp2_with fail;refine KST.o.mono ?_;rintro e x3 ⟨su,st,rfl,hsu,hst,b3⟩;obtain⟨sd,hsd⟩:=Ze (so.getD Qie);rw[hsd] at hsu hst ⊢;obtain⟨sua,suc,rfl,-,-⟩:=hsu.cell;obtain⟨sta,stc,rfl,-,-⟩:=hst.cell;obtain⟨sun,hsun⟩:=Ze sd.uses.length;obtain⟨stn,hstn⟩:=Ze sd.targets.length;rw[hsun] at hsu ⊢;rw[hstn] at hst ⊢;have HSU:=Zh hsu;have HSTT:=Zh hst;have HSD:=Zh hsd;obtain⟨sop,hsop⟩:=Ze sd.op;have HSOP:=Zh hsop;rw[hsop];obtain⟨bo,hbo⟩:=Ze so.isSome;rw[hbo];have HBO:=Zh hbo;have C4:=Zh (C3.o.trans (b3.mono (by have:=Qb HN2.o;omega)):Below nq wr x3);have HN3:=Zh (Qc HN2.o b3 (Qb HN2.o));have HFQ3:=Zh (Qc HFQ.o b3 (Qb HFQ.o));have HTI3:=Zh (HTI2.o.below b3);obtain⟨sq,hsq⟩:=Ze x3.heap.size;obtain⟨V4,hV4⟩:=Ze (x3.alloc (.cells #[iv sop,sv sd.dfn,.slice sua sun suc,.slice sta stn stc] SMT));have A4:=Zh (show Below x3.heap.size x3 V4 by rw[←hV4];exact Zb);have HSQ:=Zh (show V4.heap[sq]? = some (.cells #[iv sop,sv sd.dfn,.slice sua sun suc,.slice sta stn stc] SMT (0,0)) by rw[←hV4,←hsq];exact heap_alloc_new _ _);have C5:=Zh (C4.o.trans (A4.o.mono (by have:=Qb HN3.o;omega)):Below nq wr V4);have HN4:=Zh (Qc HN3.o A4.o (Qb HN3.o));have HFQ4:=Zh (Qc HFQ3.o A4.o (Qb HFQ3.o));have HTI4:=Zh (HTI3.o.below A4.o);have HSU4:=Zh (show Qea V4 (.slice sua sun suc) sd.uses from Qg.same HSU.o (Qf.below A4.o));have HST4:=Zh (show Qea V4 (.slice sta stn stc) sd.targets from Qg.same HSTT.o (Qf.below A4.o));have HV4:=Zh hV4;clear hsu hst b3 hsd hsun hstn hsop hbo hV4 KST x0 n0 n1 n2 n3 HN2 HN3 HFQ HFQ3 HTI2 HTI3;go_upto_region 15 with(fail)
     try rw[hsq]
     rw[show x3.alloc (.cells #[iv sop,sv sd.dfn,.slice sua sun suc,.slice sta stn stc] SMT)=V4 from HV4.o];clear hsq;obtain⟨n0,n1,n2,n3⟩:=Qt HN4.o;obtain⟨nk,hnk⟩:=Ze nd.kind;have HNK:=Zh hnk;rw[hnk] at n0;clear hnk;have HCK:=Zh hck;have HTW:=Zh (And.intro HTO.o.gen.width HTO.o.kill.width);go_cut [76] from 71 to 75 (fun s76 wx=>s76=.bool (bo&&(nk==3))∧V4=wx)
     case first=>
      cases bo with
     |true=>
       go_wp2;go_meet
       case rel=>exact⟨by simp,rfl⟩
     |false=>
       go_wp2;go_meet
       case rel=>exact⟨by simp,rfl⟩
     case rest=>
     obtain⟨rfl,rfl⟩:=hcut;clear n0 n1 n2 n3;obtain⟨dd,hdd⟩:=Ze ((bo&&(nk==3)));rw[hdd];have HDD:=Zh hdd;clear hdd;go_upto_if 76 with(fail)
     go_cut [13] from 77 to 80 (fun s13 wx=>∃ga gn gc ka kn kc ca cn cc,s13=iv i∧Hid (Below nq wr wx)∧Hid (wx.heap[fq]? = some (.cells #[iv m,.slice ga gn gc,iv m,.slice ka kn kc,.slice ca cn cc] FNA (0,0)))∧Hid (Qja wx (.slice ga gn gc) (.slice ka kn kc) (.slice ca cn cc) T))
     case first=>
      by_cases hk3:nk=3
      ·have hk3':nd.kind=3:=HNK.o.trans hk3;obtain⟨hNA,hSP⟩:=QCp HCK.o HND.o hk3';have hso:so=some (Qec p nd):=by
        rw[←HSO.o];unfold QAf;rw[if_pos ⟨by unfold insN;rw[hk3'];rfl,List.mem_of_getElem? HND.o⟩,hSP]
       have hsdd:sd=Qec p nd:=by rw[←HSD.o,hso];rfl
       obtain rfl:bo=true:=by rw[←HBO.o,hso];rfl
       obtain rfl:dd=true:=by rw[←HDD.o];simpa using hk3
       have HTE:=Zh (show Qlb (rawT (QN p) (QC p k) k i sd) (QC p k).length=T by
        rw[←HTN.o,hsdd];unfold QZe Qkk;rw[if_pos hk3'])
       have KF:=Zh (show Calls Tryz.prog 48 #[.agg #[iv k,.slice fa m fc,.slice va vn vc],iv i,.agg #[iv sop,sv sd.dfn,.slice sua sun suc,.slice sta stn stc]] V4 (Qgp T V4) by
        have hbz4:=HBZ.o _ (HBW.o _ C5.o);have hF4:Qqd V4 (.slice fa m fc) (QC p k):=by rw[HF.o];exact Qg.same HF5.o (Qf.below (HOQ.o▸HBW.o _ C5.o))
        have hV4':Qea V4 (.slice va vn vc) (QN p):=Qg.same HV5.o (Qf.below (HOQ.o▸HBW.o _ C5.o));have h1:=Qxs (B:=B) HER.o (hsdd▸hNA) (by rw[hSP,hsdd]) (.slice fa m fc) (.slice va vn vc) (.slice sua sun suc) (.slice sta stn stc) V4 (HEF.o _ hbz4) (HTZ.o _ hbz4) (by have:=hbz4.size;have:=HZ.o;omega) hF4 hV4' HSU4.o HST4.o;rw[HTE.o,HSOP.o] at h1;exact h1)
       obtain⟨t0,t1',t2⟩:=QVa (HPX.o V4 C5.o).2;obtain⟨s0,s1,s2,s3⟩:=Qt HSQ.o;clear hk3 hk3' hNA hSP hso hsdd;go_wp2_with fail;refine KF.o.mono ?_;rintro e x5 ⟨gu,ku,cu,rfl,ht,b5⟩;obtain⟨ga,gc,rfl,-⟩:=ht.gen.cell;obtain⟨ka,kc,rfl,-⟩:=ht.kill.cell;obtain⟨ca,cc,rfl,-⟩:=ht.cops.cell;obtain⟨gn,hgn⟩:=Ze T.gen.words.length;obtain⟨kn,hkn⟩:=Ze T.kill.words.length;obtain⟨cn,hcn⟩:=Ze T.cops.length;rw[hgn,hkn,hcn] at ht;simp only[trV,hgn,hkn,hcn,HTW.o.1,HTW.o.2];have HT5':=Zh ht;have hnq4:nq≤V4.heap.size:=by have:=Qb HN4.o;omega
       have C6:=Zh (C5.o.trans (b5.mono hnq4):Below nq wr x5);have HFQ5:=Zh (Qc HFQ4.o b5 (Qb HFQ4.o));have HS5:=Zh (fun (U:TypeId) (hne:U≠FNA)=>Quc (T:=U) (Qv HFQ5.o ZO) hne (iv m) (.slice ga gn gc) (iv m) (.slice ka kn kc) (.slice ca cn cc));have HFQ6:=Zh (set5 HFQ5.o (iv m) (.slice ga gn gc) (iv m) (.slice ka kn kc) (.slice ca cn cc));have HT6:=Zh (HT5'.o.keep (HS5.o _ ZD) (HS5.o _ ZD));have C7:=Zh (((((C6.o.setCell (show nq≤fq by omega) (iv m)).setCell (show nq≤fq by omega) (.slice ga gn gc)).setCell (show nq≤fq by omega) (iv m)).setCell (show nq≤fq by omega) (.slice ka kn kc)).setCell (show nq≤fq by omega) (.slice ca cn cc):Below nq wr (((((x5.setCell ⟨fq,0,none⟩ (iv m)).setCell ⟨fq,1,none⟩ (.slice ga gn gc)).setCell ⟨fq,2,none⟩ (iv m)).setCell ⟨fq,3,none⟩ (.slice ka kn kc)).setCell ⟨fq,4,none⟩ (.slice ca cn cc)));clear ht b5 hgn hkn hcn t0 t1' t2 s0 s1 s2 s3 KF;obtain⟨c0,c1,c2,c3,c4⟩:=QJ HFQ5.o;have f0:=(Qa HFQ5.o).2 0;have f1:=(Qa HFQ5.o).2 1;have f2:=(Qa HFQ5.o).2 2;have f3:=(Qa HFQ5.o).2 3;have f4:=(Qa HFQ5.o).2 4;go_wp2;go_meet
       case rel=>exact⟨_,_,_,_,_,_,_,_,_,rfl,C7.o,HFQ6.o,HT6.o⟩
      ·obtain rfl:dd=false:=by
        rw[←HDD.o];have e0:(nk==3)=false:=by simpa using hk3
        rw[e0,Bool.and_false]
       have HT6:=Zh (show Qja V4 (.slice iua iun iuc) (.slice jua jun juc) (.slice cua cun cuc) T by
        have e1:T=idT m:=by
         rw[←HTN.o,←HML.o,←HF.o];exact Qsm HER.o (by rw[HNK.o];exact hk3)
        rw[e1];exact HTI4.o)
       clear hk3;go_wp2;go_meet
       case rel=>exact⟨_,_,_,_,_,_,_,_,_,rfl,C5.o,HFQ4.o,HT6.o⟩
     case rest=>
      obtain⟨ga,gn,gc,ka,kn,kc,ca,cn,cc,rfl,C6,HFQ6,HT6⟩:=hcut;obtain⟨x6,rfl⟩:∃x:World,x=wc:=⟨_,rfl⟩;have KE:=Zh (Qxe m hm256 x6);have hnq6:nq≤x6.heap.size:=by have:=C6.o.size;have:=HNQS.o;omega
      go_wp2_with fail;refine KE.o.mono ?_;rintro e x7 ⟨eu,rfl,heu,b7⟩;obtain⟨ea,ec,rfl,-⟩:=heu.words.cell;obtain⟨en,hen⟩:=Ze ((Qy m).words.length);rw[hen,show setV (Qy m) (.slice ea en ec)=.agg #[iv m,.slice ea en ec] from rfl];have HE7:=Zh (hen▸heu.words:Qi x7 (.slice ea en ec) (Qy m).words);have C7:=Zh (C6.o.trans (b7.mono hnq6):Below nq wr x7);have HFQ7:=Zh (Qc HFQ6.o b7 (Qb HFQ6.o));have HT7:=Zh (HT6.o.below b7);obtain⟨bq,hbq⟩:=Ze x7.heap.size;obtain⟨V8,hV8⟩:=Ze (x7.alloc (.cells #[iv m,.slice ea en ec] ST));have A8:=Zh (show Below x7.heap.size x7 V8 by rw[←hV8];exact Zb);have HBQ:=Zh (show V8.heap[bq]? = some (.cells #[iv m,.slice ea en ec] ST (0,0)) by rw[←hV8,←hbq];exact heap_alloc_new _ _);have hnq7:nq≤x7.heap.size:=by have:=C7.o.size;have:=HNQS.o;omega
      have C8:=Zh (C7.o.trans (A8.o.mono hnq7):Below nq wr V8);have HFQ8:=Zh (Qc HFQ7.o A8.o (Qb HFQ7.o));have HT8:=Zh (HT7.o.below A8.o);have HE8:=Zh (HE7.o.below A8.o);have HV8:=Zh hV8;have hfb:fq<bq:=by rw[←hbq];exact Qb HFQ7.o
      clear heu b7 hen hV8 KE;go_upto_region 18 with(fail)
      try rw[hbq]
      rw[show x7.alloc (.cells #[iv m,.slice ea en ec] ST)=V8 from HV8.o];clear hbq HFQ7 HT7 HE7;go_cut [92] from 87 to 91 (fun s92 wx=>s92=.bool (((i:Int)==0)&&((k:Int)==4))∧V8=wx)
      case first=>
       by_cases h0:i=0
       ·have t1:((i:Int)==0)=true:=by simp[h0]
        go_wp2;go_meet
        case rel=>exact⟨by simp[t1],rfl⟩
       ·have t1:((i:Int)==0)=false:=by simp[h0]
        go_wp2;go_meet
        case rel=>exact⟨by simp[t1],rfl⟩
      case rest=>
      obtain⟨rfl,rfl⟩:=hcut;obtain⟨de,hde⟩:=Ze ((((i:Int)==0)&&((k:Int)==4)));rw[hde];have HDE:=Zh hde;clear hde;go_upto_if 92 with(fail)
      go_cut [13] from 93 to 98 (fun s13 wx=>∃ba bn bc,s13=iv i∧Hid (Below nq wr wx)∧Hid (wx.heap[fq]? = some (.cells #[iv m,.slice ga gn gc,iv m,.slice ka kn kc,.slice ca cn cc] FNA (0,0)))∧Hid (Qja wx (.slice ga gn gc) (.slice ka kn kc) (.slice ca cn cc) T)∧Hid (wx.heap[bq]? = some (.cells #[iv m,.slice ba bn bc] ST (0,0)))∧Hid (Qi wx (.slice ba bn bc) (bndT p k i).words))
      case first=>
       have HBD:=Zh (show bndT p k i=if de=true then QMb m m else Qy m by
        rw[←HDE.o];unfold bndT;rw[HF.o,HML.o];have e:((k:Int)=4∧i=0)↔(((i:Int)==0)&&((k:Int)==4))=true:=by
         rw[Bool.and_eq_true,beq_iff_eq,beq_iff_eq];constructor <;>(rintro⟨h1,h2⟩;exact⟨by omega,by omega⟩)
        simp only[e])
       cases de with
      |true=>
        have HB2:=Zh (show bndT p k i=QMb m m by rw[HBD.o,if_pos rfl]);have KF:=Zh (Qur m hm256 V8);clear HBD;go_wp2_with fail;refine KF.o.mono ?_;rintro e x9 ⟨fu,rfl,hfu,b9⟩;obtain⟨fua,fun',fuc,rfl⟩:=hfu.shape;have hfw:(QMb m m).width=(m:Int):=(QOp hm256).1.width;rw[show setV (QMb m m,(0:Int)).1 (.slice fua fun' fuc)=.agg #[iv m,.slice fua fun' fuc] by rw[←hfw]];have HFW:=Zh hfu.words;have C9:=Zh (C8.o.trans (b9.mono (by have:=C8.o.size;have:=HNQS.o;omega)):Below nq wr x9);have HFQ9:=Zh (Qc HFQ8.o b9 (Qb HFQ8.o));have HBQ9:=Zh (Qc HBQ.o b9 (Qb HBQ.o));have HT9:=Zh (HT8.o.below b9);have hTy:tyAt x9 bq=some ST:=Qv HBQ9.o ZO;have hTy2:tyAt (x9.setCell ⟨bq,0,none⟩ (iv m)) bq=some ST:=by rw[QS];exact hTy
        have S2:=Zh (fun (U:TypeId) (hne:U≠ST)=>(show Qf U x9 ((x9.setCell ⟨bq,0,none⟩ (iv m)).setCell ⟨bq,1,none⟩ (.slice fua fun' fuc)) from(Qf.setCell (U:=ST) hTy hne).trans (Qf.setCell (U:=ST) hTy2 hne)));have C10:=Zh ((C9.o.setCell (show nq≤bq by omega) (iv m)).setCell (show nq≤bq by omega) (.slice fua fun' fuc):Below nq wr ((x9.setCell ⟨bq,0,none⟩ (iv m)).setCell ⟨bq,1,none⟩ (.slice fua fun' fuc)));have HFQ10:=Zh (show((x9.setCell ⟨bq,0,none⟩ (iv m)).setCell ⟨bq,1,none⟩ (.slice fua fun' fuc)).heap[fq]? = some (.cells #[iv m,.slice ga gn gc,iv m,.slice ka kn kc,.slice ca cn cc] FNA (0,0)) by
         rw[Below.heap_setCell _ _ _ _ (by show fq≠bq;omega),Below.heap_setCell _ _ _ _ (by show fq≠bq;omega)];exact HFQ9.o)
        have HT10:=Zh (HT9.o.keep (S2.o _ ZD) (S2.o _ ZD));have HBQ10:=Zh (Qvb (Qwb HBQ9.o (iv m)) (.slice fua fun' fuc));have HW10:=Zh (show Qi ((x9.setCell ⟨bq,0,none⟩ (iv m)).setCell ⟨bq,1,none⟩ (.slice fua fun' fuc)) (.slice fua fun' fuc) (bndT p k i).words by rw[HB2.o];exact HFW.o.keep (S2.o _ ZD));clear hfu b9 KF hfw hTy hTy2;obtain⟨c0,c1⟩:=Qq HBQ9.o;have f0:=(Qa HBQ9.o).2 0;have f1:=(Qa HBQ9.o).2 1;go_wp2;go_meet
        case rel=>exact⟨_,_,_,rfl,C10.o,HFQ10.o,HT10.o,HBQ10.o,HW10.o⟩
      |false=>
        have HW8:=Zh (show Qi V8 (.slice ea en ec) (bndT p k i).words by rw[HBD.o,if_neg ZS];exact HE8.o);go_wp2;go_meet
        case rel=>exact⟨_,_,_,rfl,C8.o,HFQ8.o,HT8.o,HBQ.o,HW8.o⟩
      case rest=>
       obtain⟨ba,bn,bc,rfl,C11,HFQ11,HT11,HBQ11,HW11⟩:=hcut;obtain⟨x11,rfl⟩:∃x:World,x=wc:=⟨_,rfl⟩;have HO11:=Zh (HO1.o.next (HNQS.o▸C11.o));obtain⟨tva,tvc,hve⟩:=HO11.o.tr.slice;obtain⟨bva,bvc,hve2⟩:=HO11.o.bd.slice;subst hve hve2;obtain⟨xss,hox,hxx⟩:=HO11.o.tr;have HOX:=Zh (show x11.ownsRow (oq+1) FNA 5 (.slice tva TS.length tvc) TS.length xss.flatten from hox);have hoq11:oq+1≤x11.heap.size:=HO11.o.lt;have PUSH:=Zh (show ∀g cap w',w'.ownsRow (oq+1) FNA 5 (.slice (some ⟨g,0,none⟩) (TS.length+1) cap) (TS.length+1) (xss.flatten++[iv m,.slice ga gn gc,iv m,.slice ka kn kc,.slice ca cn cc])→x11.grownBy w' (Value.slice tva TS.length tvc).ownBlock →
         (OfS oq m W5 (w'.setCell ⟨oq,2,none⟩ (.slice (some ⟨g,0,none⟩) (TS.length+1) cap)) (.slice da NN dc) (.slice (some ⟨g,0,none⟩) (TS.length+1) cap) (.slice bva BS.length bvc) (TS++[T]) BS∧w'.heap[oq]? = some (.cells #[iv m,.slice da NN dc,.slice tva TS.length tvc,.slice bva BS.length bvc] SYT (0,0))) ∧
         Qi (w'.setCell ⟨oq,2,none⟩ (.slice (some ⟨g,0,none⟩) (TS.length+1) cap)) (.slice ba bn bc) (bndT p k i).words∧(w'.setCell ⟨oq,2,none⟩ (.slice (some ⟨g,0,none⟩) (TS.length+1) cap)).heap[bq]? = some (.cells #[iv m,.slice ba bn bc] ST (0,0)) from fun g cap w' ho hg=>by
        have h1:=HO11.o.pushT HOX.o hxx HT11.o (by rw[HTW.o.1,HTW.o.2];exact ho) hg;have hbw:Below (oq+1) x11 w':=Below.of_grown hg HOX.o hoq11;have hTy:tyAt w' oq=some SYT:=Qv h1.2 ZO;refine⟨h1,(HW11.o.keep (Qf.grown hg HOX.o ZD)).keep (Qf.setCell (U:=SYT) hTy ZD),?_⟩;rw[Below.heap_setCell _ _ _ _ (by show bq≠oq;omega)];exact(hg.block bq (Qb HBQ11.o) (Qdb HOX.o HBQ11.o (fun c' fr e=>by injection e with _ e _;exact absurd e ZD))).trans HBQ11.o)
       clear hox hxx;obtain⟨t0,t1,t2,t3⟩:=Qt HO11.o.ob;obtain⟨q0,q1,q2,q3,q4⟩:=QJ HFQ11.o;go_upto_region 21 with(at_builtin;refine QL [iv m,.slice ga gn gc,iv m,.slice ka kn kc,.slice ca cn cc] rfl _ _ _ rfl (oq+1) FNA _ 5 88 Tryz.underlying33 QFi rfl ZO _ _ _ HOX.o rfl rfl rfl rfl (by unfold maxLen;omega) ZO hoq11 ?_;intro g cap w9 ho hg hzg _;have HP9:=Zh (PUSH.o g cap w9 ho hg);have v2:=(Qa HP9.o.1.2).1 2;have v3:=(Qa HP9.o.1.2).2 2;simp only[Zx,Zy,Zz] at v2;clear ho hg hzg)
       obtain⟨x12,hx12⟩:=Ze (w9.setCell ⟨oq,2,none⟩ (.slice (some ⟨g,0,none⟩) (TS.length+1) cap));rw[hx12] at HP9 ⊢;clear t0 t1 t2 t3 q0 q1 q2 q3 q4 v2 v3 PUSH HO11 hx12;obtain⟨yss,hoy,hyy⟩:=HP9.o.1.1.bd;have HOY:=Zh (show x12.ownsRow (oq+1) ST 2 (.slice bva BS.length bvc) BS.length yss.flatten from hoy);have hoq12:oq+1≤x12.heap.size:=HP9.o.1.1.lt;have HBW':=Zh (show(bndT p k i).width=(m:Int) by rw[←HML.o,←HF.o];exact(QTs HER.o i).width);have PUSH2:=Zh (show ∀g2 cap2 w',w'.ownsRow (oq+1) ST 2 (.slice (some ⟨g2,0,none⟩) (BS.length+1) cap2) (BS.length+1) (yss.flatten++[iv m,.slice ba bn bc])→x12.grownBy w' (Value.slice bva BS.length bvc).ownBlock →
         OfS oq m W5 (w'.setCell ⟨oq,3,none⟩ (.slice (some ⟨g2,0,none⟩) (BS.length+1) cap2)) (.slice da NN dc) (.slice (some ⟨g,0,none⟩) (TS.length+1) cap) (.slice (some ⟨g2,0,none⟩) (BS.length+1) cap2) (TS++[T]) (BS++[bndT p k i])∧w'.heap[oq]? = some (.cells #[iv m,.slice da NN dc,.slice (some ⟨g,0,none⟩) (TS.length+1) cap,.slice bva BS.length bvc] SYT (0,0)) from fun g2 cap2 w' ho hg=>
        HP9.o.1.1.pushB HOY.o hyy HP9.o.2.1 (by rw[HBW'.o];exact ho) hg)
       clear hoy hyy;obtain⟨t0,t1,t2,t3⟩:=Qt HP9.o.1.1.ob;obtain⟨q0,q1⟩:=Qq HP9.o.2.2;go_wp2_with (at_builtin;refine QL [iv m,.slice ba bn bc] rfl _ _ _ rfl (oq+1) ST _ 2 32 Tryz.underlying34 Qwd rfl ZO _ _ _ HOY.o rfl rfl rfl rfl (by unfold maxLen;omega) ZO hoq12 ?_;intro g2 cap2 w13 ho hg hzg _;have HP13:=Zh (PUSH2.o g2 cap2 w13 ho hg);have v2:=(Qa HP13.o.2).1 3;have v3:=(Qa HP13.o.2).2 3;simp only[Zx,Zy,Zz] at v2;clear ho hg hzg);have HO13:=Zh (HBB.o.symm▸HTT.o.symm▸HP13.o.1);go_roundw
       case rel=>exact⟨i+1,by omega,by go_num,⟨_,_,HO13.o⟩⟩
       case measure=>simp[intOf];omega
    ·obtain rfl:i=NN:=by omega
     obtain⟨tv,bv,HV⟩:=HRr.o;have HTK:(QR p).take i=QR p:=List.take_of_length_le (by rw[HNN.o];exact Nat.le_refl _);rw[HTK] at HV;obtain⟨tva,tvc,hve⟩:=HV.tr.slice;obtain⟨bva,bvc,hve2⟩:=HV.bd.slice;subst hve hve2;obtain⟨tn,htn⟩:=Ze (((QR p).mapIdx (QZe p k)).length);obtain⟨bn,hbn⟩:=Ze (((QR p).mapIdx fun i _=>bndT p k i).length);rw[htn,hbn] at HV;have HO1:=Zh HV;have HRB:=Zh ((HV.below.block (z+1) ZO).trans HR5.o);have HSA:=Zh (show QKd wr (.slice da i dc) (.slice tva tn tvc) (.slice bva bn bvc) (QZc p k) from
      ⟨by
       have h1:=HD5.o.below (HOQ.o▸HV.below);rw[←HDP.o] at h1;exact h1,HV.tr.rows,HV.bd.rows⟩)
     have HS5:=Zh (fun (U:TypeId) (hne:U≠SYT)=>Qsg (T:=U) (Qv HRB.o ZO) hne (iv m) (.slice da i dc) (.slice tva tn tvc) (.slice bva bn bvc));have HSA2:=Zh (HSA.o.keep fun U hU=>HS5.o U (by
      simp only[List.mem_cons,List.mem_nil_iff,or_false] at hU;rcases hU with rfl|rfl|rfl|rfl|rfl|rfl <;> decide))
     have E4:=Zh (set4 HRB.o (iv m) (.slice da i dc) (.slice tva tn tvc) (.slice bva bn bvc));have HB4:=Zh (show Below z w ((((wr.setCell ⟨z+1,0,none⟩ (iv m)).setCell ⟨z+1,1,none⟩ (.slice da i dc)).setCell ⟨z+1,2,none⟩ (.slice tva tn tvc)).setCell ⟨z+1,3,none⟩ (.slice bva bn bvc)) from
      ((((HBZ.o wr HV.below).setCell (by show z≤z+1;omega) _).setCell (by show z≤z+1;omega) _).setCell (by show z≤z+1;omega) _).setCell (by show z≤z+1;omega) _)
     clear HV HRr htn hbn HTK;obtain⟨t0,t1,t2,t3⟩:=Qt HO1.o.ob;obtain⟨c0,c1,c2,c3⟩:=Qt HRB.o;have f0:=(Qa HRB.o).2 0;have f1:=(Qa HRB.o).2 1;have f2:=(Qa HRB.o).2 2;have f3:=(Qa HRB.o).2 3;go_wp2;obtain⟨g0,g1,g2,g3⟩:=Qt E4.o;refine bodyPost_ret (v:=.tuple #[.agg #[iv m,.slice da i dc,.slice tva tn tvc,.slice bva bn bvc],iv 0]) (by simp[results,Tryz.results12,go_sem,g0,g1,g2,g3]) rfl ?_;rw[HOT.o];exact⟨_,_,_,by rw[show sysV (QZc p k,(0:Int)).1 (.slice da i dc) (.slice tva tn tvc) (.slice bva bn bvc)=.agg #[iv (QC p k).length,.slice da i dc,.slice tva tn tvc,.slice bva bn bvc] from rfl,HF.o,HML.o],HSA2.o,by rw[HZ.o];exact HB4.o⟩
end
end Go.Proofs.YtijekimobahgpaaGreatDoor
