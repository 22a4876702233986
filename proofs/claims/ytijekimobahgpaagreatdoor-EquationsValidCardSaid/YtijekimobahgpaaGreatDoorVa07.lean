/- A part of the proof. -/
import Derived.Test.YtijekimobahgpaaGreatDoorVa06
set_option linter.unusedVariables false
set_option linter.unusedSimpArgs false
set_option linter.unusedSectionVars false
set_option maxRecDepth 100000
set_option maxHeartbeats 16000000
namespace Go.Proofs.YtijekimobahgpaaGreatDoor
section
open Go.RowKit
variable [Base]
theorem rname_sv (s:Str)(w:World):Calls Tryz.prog 175 #[sv s] w (Qde (QV s) w):=Qsk ⟨s.toArray⟩ w
theorem QLo {f:Qo}(h:QV f.name=false):QNc f=false:=by unfold QNc;rw[h];rfl
theorem Qer (f:Qo)(h:f.blocks.length<1):QNc f=false:=by
 unfold QNc;rw[show decide (1≤f.blocks.length)=false from decide_eq_false ZO];simp
theorem QMo (f:Qo)(h:16<f.blocks.length):QNc f=false:=by
 unfold QNc;rw[show decide (f.blocks.length≤16)=false from decide_eq_false ZO];simp
theorem Qys (f:Qo)(h:QV f.name=true)(h1:1≤f.blocks.length)(h2:f.blocks.length≤16):QNc f=f.blocks.all Qoc:=by
 unfold QNc;rw[h];simp[h1,h2]
theorem Qon {f:QI}(h:QV f.name=false):Qoc f=false:=by unfold Qoc;rw[h];rfl
theorem QZo (f:QI)(h:f.stmts.length<1):Qoc f=false:=by
 unfold Qoc;rw[show decide (1≤f.stmts.length)=false from decide_eq_false ZO];simp
theorem Qpn (f:QI)(h:32<f.stmts.length):Qoc f=false:=by
 unfold Qoc;rw[show decide (f.stmts.length≤32)=false from decide_eq_false ZO];simp
theorem Qtr (f:QI)(h:QV f.name=true)(h1:1≤f.stmts.length)(h2:f.stmts.length≤32):Qoc f=f.stmts.all stmtB:=by
 unfold Qoc;rw[h];simp[h1,h2]
theorem Qjy (p:List Qo)(v:Value)(w:World)(h:QAa w v p)(h1:1≤p.length)(h8:p.length≤8):
  Calls Tryz.prog 126 #[.agg #[v]] w (QTj (p.all QNc) w):=by
 obtain⟨a,c,rfl,hn,hc⟩:=h.cell;have HC:=Zh hc;obtain⟨n,hl⟩:=Ze p.length;rw[hl] at hn h1 h8 ⊢;have HL:=Zh hl;clear hc h hl hn;go_enter Tryz.func126,Tryz.ntmps126;go_wp2;have B0:=Zh ((Below.refl w.heap.size w).alloc (Nat.le_refl _) (.cells #[.slice a n c] 25));go_loopw [3] (fun x wr=>∃i:Nat,i≤n∧x=.int .i64 i∧Hid (Below w.heap.size w wr)∧w.heap.size<wr.heap.size∧wr.cell? ⟨w.heap.size,0,none⟩=some (.slice a n c)∧Hid (p.all QNc=(p.drop i).all QNc)) (fun x _=>n-(intOf x).toNat)
 case atStart=>exact⟨0,Nat.zero_le _,rfl,B0,by simp,World.cell?_alloc_new _ _ _ _,by unfold Hid;simp⟩
 case round=>
  obtain⟨i,hi,rfl,HB,hz,hp0,hs⟩:=hrel;by_cases hlt:i<n
  ·obtain⟨f,hf⟩:∃f,p[i]? = some f:=⟨_,List.getElem?_eq_getElem (show i<p.length by have:=HL.o;omega)⟩;obtain⟨fb,off,bv,rfl,hfb,g0,g1,hbl⟩:=HC.o i f hf;have g0:=(HB.o.cell (p:=⟨fb,off+i*2,none⟩) hfb).trans g0;have g1:=(HB.o.cell (p:=⟨fb,off+i*2+1,none⟩) hfb).trans g1;have st:=Zh (Qzd p i f hf QNc);obtain⟨ba,bc,rfl,hbn,hbc⟩:=hbl.cell;have HBC:=Zh hbc;obtain⟨bn,hbl2⟩:=Ze f.blocks.length;rw[hbl2] at hbn g1;unfold maxLen at hbn;have HBL:=Zh hbl2;clear hf hbl hbc hbl2 B0;have hR:=Zh (fun w=>rname_sv f.name w);go_wp2_with fail;refine(hR.o _).mono ?_;rintro e w2 ⟨rfl,hb2⟩;have hsz:=hb2.size;simp at hsz;have q0:w2.cell? ⟨wr.heap.size,0,none⟩=some (sv f.name):=(hb2.cell (p:=⟨wr.heap.size,0,none⟩) ZS).trans (World.cell?_alloc_new _ _ _ _);have q1:w2.cell? ⟨wr.heap.size,1,none⟩=some (.slice ba bn bc):=(hb2.cell (p:=⟨wr.heap.size,1,none⟩) ZS).trans (World.cell?_alloc_new _ _ _ _);have ba1:=(Below.refl wr.heap.size wr).alloc (Nat.le_refl _) (.cells #[sv f.name,.slice ba bn bc] 89);have hp0:=(hb2.cell (p:=⟨w.heap.size,0,none⟩) (by simp;omega)).trans ((ba1.cell (p:=⟨w.heap.size,0,none⟩) hz).trans hp0);have HB2:=Zh ((HB.o.trans (ba1.mono ZO)).trans (hb2.mono (by simp;omega)));obtain⟨bf,hbf⟩:=Ze wr.heap.size;rw[hbf] at q0 q1 hsz hz;rw[hbf];clear hb2 HB g0 g1 ba1 hbf hR
   cases e:QV f.name
   ·have hF:=Zh (QLo e);go_wp2;go_ret;exact⟨Qgb (by rw[hs.o,st.o,hF.o];rfl),HB2.o⟩
   have E:=Zh e;clear e;by_cases hb1:(bn:Int)<1
   ·have hF:=Zh (Qer f (by rw[HBL.o];omega));go_wp2;go_ret;exact⟨Qgb (by rw[hs.o,st.o,hF.o];rfl),HB2.o⟩
   by_cases hb16:(16:Int)<(bn:Int)
   ·have hF:=Zh (QMo f (by rw[HBL.o];omega));go_wp2;go_ret;exact⟨Qgb (by rw[hs.o,st.o,hF.o];rfl),HB2.o⟩
   have hF:=Zh (Qys f E.o (by rw[HBL.o];omega) (by rw[HBL.o];omega));go_wp2;obtain⟨wo,rfl⟩:∃wo:World,wo=w2:=⟨_,rfl⟩;go_loopw [5] (fun x wi=>∃k:Nat,k≤bn∧x=.int .i64 k∧Hid (Below w.heap.size w wi)∧bf<wi.heap.size∧wi.cell? ⟨w.heap.size,0,none⟩=some (.slice (some ⟨fb,off,none⟩) n c)∧wi.cell? ⟨bf,1,none⟩=some (.slice ba bn bc)∧Hid (f.blocks.all Qoc=(f.blocks.drop k).all Qoc)) (fun x _=>bn-(intOf x).toNat)
   case atStart=>exact⟨0,Nat.zero_le _,rfl,HB2,by omega,hp0,q1,by unfold Hid;simp⟩
   case round=>
    obtain⟨k,hk,rfl,HB,hbz,hp0,q1,hs2⟩:=hrel;by_cases hlt2:k<bn
    ·obtain⟨b,hb⟩:∃b,f.blocks[k]? = some b:=⟨_,List.getElem?_eq_getElem (show k<f.blocks.length by have:=HBL.o;omega)⟩;obtain⟨kb,koff,sv1,rfl,hkb,g0,g1,hsl⟩:=HBC.o k b hb;have g0:=(HB.o.cell (p:=⟨kb,koff+k*2,none⟩) hkb).trans g0;have g1:=(HB.o.cell (p:=⟨kb,koff+k*2+1,none⟩) hkb).trans g1;have st2:=Zh (Qzd f.blocks k b hb Qoc);obtain⟨sa,sc,rfl,hsn,hsc⟩:=hsl.cell;have HSC:=Zh hsc;obtain⟨sn,hsl2⟩:=Ze b.stmts.length;rw[hsl2] at hsn g1;unfold maxLen at hsn;have HSL:=Zh hsl2;clear hb hsl hsc hsl2;have hR:=Zh (fun w=>rname_sv b.name w);go_wp2_with fail;refine(hR.o _).mono ?_;rintro e w2 ⟨rfl,hb2⟩;have hsz:=hb2.size;simp at hsz;have r0:w2.cell? ⟨wr.heap.size,0,none⟩=some (sv b.name):=(hb2.cell (p:=⟨wr.heap.size,0,none⟩) ZS).trans (World.cell?_alloc_new _ _ _ _);have r1:w2.cell? ⟨wr.heap.size,1,none⟩=some (.slice sa sn sc):=(hb2.cell (p:=⟨wr.heap.size,1,none⟩) ZS).trans (World.cell?_alloc_new _ _ _ _);have ba1:=(Below.refl wr.heap.size wr).alloc (Nat.le_refl _) (.cells #[sv b.name,.slice sa sn sc] 92);have hp0:=(hb2.cell (p:=⟨w.heap.size,0,none⟩) (by simp;omega)).trans ((ba1.cell (p:=⟨w.heap.size,0,none⟩) (by show w.heap.size<_;omega)).trans hp0);have q1:=(hb2.cell (p:=⟨bf,1,none⟩) (by simp;omega)).trans ((ba1.cell (p:=⟨bf,1,none⟩) hbz).trans q1);have HB2:=Zh ((HB.o.trans (ba1.mono ZO)).trans (hb2.mono (by simp;omega)));obtain⟨bb,hbb⟩:=Ze wr.heap.size;rw[hbb] at r0 r1 hsz hbz;rw[hbb];clear hb2 HB g0 g1 ba1 hbb hR
     cases e:QV b.name
     ·have hK:=Zh (Qon e);go_wp2;go_ret;exact⟨Qgb (by rw[hs.o,st.o,hF.o,hs2.o,st2.o,hK.o];rfl),HB2.o⟩
     have E:=Zh e;clear e;by_cases hc1:(sn:Int)<1
     ·have hK:=Zh (QZo b (by rw[HSL.o];omega));go_wp2;go_ret;exact⟨Qgb (by rw[hs.o,st.o,hF.o,hs2.o,st2.o,hK.o];rfl),HB2.o⟩
     by_cases hc32:(32:Int)<(sn:Int)
     ·have hK:=Zh (Qpn b (by rw[HSL.o];omega));go_wp2;go_ret;exact⟨Qgb (by rw[hs.o,st.o,hF.o,hs2.o,st2.o,hK.o];rfl),HB2.o⟩
     have hK:=Zh (Qtr b E.o (by rw[HSL.o];omega) (by rw[HSL.o];omega));go_wp2;obtain⟨wo,rfl⟩:∃wo:World,wo=w2:=⟨_,rfl⟩;go_loopw [7] (fun x wi=>∃j:Nat,j≤sn∧x=.int .i64 j∧Hid (Below w.heap.size w wi)∧bb<wi.heap.size∧wi.cell? ⟨w.heap.size,0,none⟩=some (.slice (some ⟨fb,off,none⟩) n c)∧wi.cell? ⟨bf,1,none⟩=some (.slice (some ⟨kb,koff,none⟩) bn bc)∧wi.cell? ⟨bb,1,none⟩=some (.slice sa sn sc)∧Hid (b.stmts.all stmtB=(b.stmts.drop j).all stmtB)) (fun x _=>sn-(intOf x).toNat)
     case atStart=>exact⟨0,Nat.zero_le _,rfl,HB2,by omega,hp0,q1,r1,by unfold Hid;simp⟩
     case round=>
      obtain⟨j,hj,rfl,HB,hcz,hp0,q1,r1,hs3⟩:=hrel;by_cases hlt3:j<sn
      ·obtain⟨s,hs4⟩:∃s,b.stmts[j]? = some s:=⟨_,List.getElem?_eq_getElem (show j<b.stmts.length by have:=HSL.o;omega)⟩;obtain⟨jb,joff,su,tu,rfl,hjb,g0,g1,g2,g3,hsu,htu⟩:=HSC.o j s hs4;have g0:=(HB.o.cell (p:=⟨jb,joff+j*4,none⟩) hjb).trans g0;have g1:=(HB.o.cell (p:=⟨jb,joff+j*4+1,none⟩) hjb).trans g1;have g2:=(HB.o.cell (p:=⟨jb,joff+j*4+2,none⟩) hjb).trans g2;have g3:=(HB.o.cell (p:=⟨jb,joff+j*4+3,none⟩) hjb).trans g3;have st3:=Zh (Qzd b.stmts j s hs4 stmtB);have hR:=Zh (QIx s su tu wr (Qg.same hsu (Qf.below HB.o)) (Qg.same htu (Qf.below HB.o)));clear hs4 hsu htu;go_wp2_with fail;refine hR.o.mono ?_;rintro e w2 ⟨rfl,hb2⟩;have hsz:=hb2.size;have hp0:=(hb2.cell (p:=⟨w.heap.size,0,none⟩) (by show w.heap.size<_;omega)).trans hp0;have q1:=(hb2.cell (p:=⟨bf,1,none⟩) (by show bf<_;omega)).trans q1;have r1:=(hb2.cell (p:=⟨bb,1,none⟩) hcz).trans r1;have HB2:=Zh (HB.o.trans (hb2.mono ZO));clear hb2 HB g0 g1 g2 g3 hR
       cases e:stmtB s
       ·have E:=Zh e;clear e;go_wp2;go_ret;exact⟨Qgb (by rw[hs.o,st.o,hF.o,hs2.o,st2.o,hK.o,hs3.o,st3.o,E.o];rfl),HB2.o⟩
       ·have E:=Zh e;clear e;go_wp2;go_roundw
        case rel=>exact⟨j+1,by omega,by go_num,HB2,by omega,hp0,q1,r1,by unfold Hid;rw[hs3.o,st3.o,E.o];rfl⟩
        case measure=>simp[intOf];omega
      ·have hall:Hid (Qoc b=true):=by unfold Hid;rw[hK.o,hs3.o,List.drop_of_length_le (by have:=HSL.o;omega)];rfl
       go_wp2;go_roundw
       case rel=>exact⟨k+1,by omega,by go_num,HB,by omega,hp0,q1,by unfold Hid;rw[hs2.o,st2.o,hall.o];rfl⟩
       case measure=>simp[intOf];omega
    ·have hall:Hid (QNc f=true):=by unfold Hid;rw[hF.o,hs2.o,List.drop_of_length_le (by have:=HBL.o;omega)];rfl
     go_wp2;go_roundw
     case rel=>exact⟨i+1,by omega,by go_num,HB,by omega,hp0,by unfold Hid;rw[hs.o,st.o,hall.o];rfl⟩
     case measure=>simp[intOf];omega
  ·go_wp2;go_ret;exact⟨Qgb (by rw[hs.o,List.drop_of_length_le (by have:=HL.o;omega)];rfl),HB.o⟩
theorem QTw (p:List Qo)(v:Value)(w:World)(h:QAa w v p):
  Calls Tryz.prog 126 #[.agg #[v]] w (QTj (QMa p) w):=by
 by_cases h1:1≤p.length
 ·by_cases h8:p.length≤8
  ·have e:QMa p=p.all QNc:=by unfold QMa;simp[h1,h8]
   rw[e];exact Qjy p v w h h1 h8
  ·have e:QMa p=false:=by unfold QMa;simp[h8]
   rw[e];obtain⟨a,c,rfl,hn,_⟩:=h.cell;have g1:decide ((p.length:Int)<1)=false:=by simp;omega
   have g8:decide ((8:Int)<(p.length:Int))=true:=by simp;omega
   clear h h1 h8 e hn;go_enter Tryz.func126,Tryz.ntmps126;go_wp2;go_ret;exact⟨rfl,Zb⟩
 ·have e:QMa p=false:=by unfold QMa;simp[h1]
  rw[e];obtain⟨a,c,rfl,hn,_⟩:=h.cell;have g1:decide ((p.length:Int)<1)=true:=by simp;omega
  clear h h1 e hn;go_enter Tryz.func126,Tryz.ntmps126;go_wp2;go_ret;exact⟨rfl,Zb⟩
end
section
open Go.RowKit
variable [Base]
def FitS (s:QD):Prop:=(s.uses.length+s.targets.length+1)*16≤140737488355328
theorem Qkm {B:Nat}{w:World}(kw:KwIn B w)(hB:B≤w.heap.size)(s:QD)(u t:Value)(hu:Qea w u s.uses)(ht:Qea w t s.targets)(hf:FitS s):
  Calls Tryz.prog 188 #[.agg #[iv s.op,sv s.dfn,u,t]] w (Qia (!stmtB s) w):=by
 have B0:=(Below.refl w.heap.size w).alloc (Nat.le_refl _) (.cells #[iv s.op,sv s.dfn,u,t] 94);have HB0:=Zh B0;have K:=Zh (QCn (kw.keep fun k hk=>B0.block k (Nat.lt_of_lt_of_le hk hB)) (Nat.le_trans hB B0.size) s u t (Qg.same hu (Qf.below B0)) (Qg.same ht (Qf.below B0)) hf);clear B0;obtain⟨r,hr⟩:=Ze (stmtB s);rw[hr] at K ⊢;obtain⟨a1,c1,rfl,-,-⟩:=hu.cell;obtain⟨a2,c2,rfl,-,-⟩:=ht.cell;clear kw hr hu ht;go_enter Tryz.func188,Tryz.ntmps188;go_wp2_with fail;refine K.o.mono ?_;rintro e w' ⟨rfl,b⟩;have HB:=Zh (HB0.o.trans (b.mono HB0.o.size));clear b;go_wp2;go_ret;exact⟨rfl,HB.o⟩
def QDu (l:List QD)(w:World)(e:Ending)(w':World):Prop:=∃z:Int,e=.returned (iv z)∧-1≤z∧l.all stmtB=decide (z<0)∧Below w.heap.size w w'
theorem QAo {B:Nat}{w:World}(kw:KwIn B w)(hB:B≤w.heap.size)(l:List QD)(v:Value)(h:QDd w v l)(hf:∀s∈l,FitS s):
  Calls Tryz.prog 231 #[v,.func (.func 188) #[] #[]] w (QDu l w):=by
 obtain⟨a,c,rfl,hn,hc⟩:=h.cell;have HC:=Zh hc;have KW:=Zh kw;have HF:=Zh hf;obtain⟨n,hl⟩:=Ze l.length;rw[hl] at hn ⊢;have HL:=Zh hl;clear hc h hl kw hf;unfold maxLen at hn;go_enter Tryz.func231,Tryz.ntmps231;go_wp2;go_loopw [8] (fun x wr=>∃k:Nat,k≤n∧x=.int .i64 k∧Hid (Below w.heap.size w wr)∧Hid (l.all stmtB=(l.drop k).all stmtB)) (fun x _=>n-(intOf x).toNat)
 case atStart=>exact⟨0,Nat.zero_le _,rfl,by first|exact Below.refl _ _|exact below_draw (Below.refl _ _) _|exact(Below.refl _ _).drewN _,by unfold Hid;simp⟩
 case round=>
  obtain⟨k,hk,rfl,HB,HA⟩:=hrel;by_cases hlt:k<n
  ·obtain⟨s,hs⟩:∃s,l[k]? = some s:=⟨_,List.getElem?_eq_getElem (show k<l.length by have:=HL.o;omega)⟩;obtain⟨jb,joff,su,tu,rfl,hjb,g0,g1,g2,g3,hsu,htu⟩:=HC.o k s hs;have g0:=(HB.o.cell (p:=⟨jb,joff+k*4,none⟩) hjb).trans g0;have g1:=(HB.o.cell (p:=⟨jb,joff+k*4+1,none⟩) hjb).trans g1;have g2:=(HB.o.cell (p:=⟨jb,joff+k*4+2,none⟩) hjb).trans g2;have g3:=(HB.o.cell (p:=⟨jb,joff+k*4+3,none⟩) hjb).trans g3;have K:=Zh (fun (w2:World) (b:Below w.heap.size w w2)=>Qkm (KwIn.keep KW.o fun k hk=>b.block k (Nat.lt_of_lt_of_le hk hB)) (Nat.le_trans hB b.size) s su tu (Qg.same hsu (Qf.below b)) (Qg.same htu (Qf.below b)) (HF.o s (List.mem_of_getElem? hs)));have HS:=Zh (Qzd l k s hs stmtB);obtain⟨r,hr⟩:=Ze (stmtB s);rw[hr] at K HS;clear hs hr hsu htu
   cases r with
  |false=>
    have HG:=Zh (show l.all stmtB=false by rw[HA.o,HS.o];rfl);go_wp2_with fail;refine(K.o _ HB.o).mono ?_;rintro e w' ⟨rfl,b⟩;have HB2:=Zh (HB.o.trans (b.mono HB.o.size));clear b g0 g1 g2 g3;go_wp2;go_ret;exact⟨(k:Int),rfl,by omega,by rw[HG.o];simp,HB2.o⟩
  |true=>
    have HG:=Zh (show l.all stmtB=(l.drop (k+1)).all stmtB by rw[HA.o,HS.o];rfl);go_wp2_with fail;refine(K.o _ HB.o).mono ?_;rintro e w' ⟨rfl,b⟩;have HB2:=Zh (HB.o.trans (b.mono HB.o.size));clear b g0 g1 g2 g3;go_wp2;go_roundw
    case rel=>exact⟨k+1,by omega,by go_num,HB2,HG⟩
    case measure=>simp[intOf];omega
  ·have HG:=Zh (show l.all stmtB=true by rw[HA.o,List.drop_eq_nil_of_le (by rw[HL.o];omega)];rfl);go_wp2;go_ret;exact⟨-1,rfl,by omega,by rw[HG.o];rfl,HB.o⟩
theorem Qck {B:Nat}{w:World}(kw:KwIn B w)(hB:B≤w.heap.size)(l:List QD)(v:Value)(h:QDd w v l)(hf:∀s∈l,FitS s):
  Calls Tryz.prog 187 #[v,.func (.func 188) #[] #[]] w (Qia (!l.all stmtB) w):=by
 obtain⟨a,c,rfl,-,-⟩:=h.cell;have K:=Zh (QAo kw hB l _ h hf);clear h kw;go_enter Tryz.func187,Tryz.ntmps187;go_wp2_with fail;refine K.o.mono ?_;rintro e w' ⟨z,rfl,hz,ha,b⟩;have HA:=Zh (show(!l.all stmtB)=decide (0≤z) by rw[ha,Bool.eq_iff_iff];simp);have HB:=Zh b;clear ha b;go_wp2;go_ret;exact⟨by rw[HA.o];rfl,HB.o⟩
end
section
open Go.RowKit
variable [Base]
theorem QIm {B:Nat}{w0 w:World}(kw:KwIn B w0)(hB:B≤w0.heap.size)(b:Below w0.heap.size w0 w)(s:Str):Calls Tryz.prog 186 #[sv s] w (QTj (QV s) w):=
 (Qzj ⟨s.toArray⟩ w (kw.at_ (b.mono hB))).mono fun e w' ⟨h,k,h2⟩=>⟨h,by rw[h2];exact below_drewN (Below.refl _ _) k⟩
theorem QDq {B:Nat}{w:World}(kw:KwIn B w)(hB:B≤w.heap.size)(p:List Qo)(v:Value)(h:QAa w v p)(hf:∀f∈p,∀b∈f.blocks,∀s∈b.stmts,FitS s)(h1:1≤p.length)(h8:p.length≤8):
  Calls Tryz.prog 154 #[.agg #[v]] w (QTj (p.all QNc) w):=by
 obtain⟨a,c,rfl,hn,hc⟩:=h.cell;have HC:=Zh hc;obtain⟨n,hl⟩:=Ze p.length;rw[hl] at hn h1 h8 ⊢;have HL:=Zh hl;have KK:=Zh kw;have HFF:=Zh hf;clear hc h hl hn kw hf;go_enter Tryz.func154,Tryz.ntmps154;go_wp2;have B0:=Zh ((Below.refl w.heap.size w).alloc (Nat.le_refl _) (.cells #[.slice a n c] 25));go_loopw [20] (fun x wr=>∃i:Nat,i≤n∧x=.int .i64 i∧Hid (Below w.heap.size w wr)∧w.heap.size<wr.heap.size∧wr.cell? ⟨w.heap.size,0,none⟩=some (.slice a n c)∧Hid (p.all QNc=(p.drop i).all QNc)) (fun x _=>n-(intOf x).toNat)
 case atStart=>exact⟨0,Nat.zero_le _,rfl,B0,by simp,World.cell?_alloc_new _ _ _ _,by unfold Hid;simp⟩
 case round=>
  obtain⟨i,hi,rfl,HB,hz,hp0,hs⟩:=hrel;by_cases hlt:i<n
  ·obtain⟨f,hf2⟩:∃f,p[i]? = some f:=⟨_,List.getElem?_eq_getElem (show i<p.length by have:=HL.o;omega)⟩;obtain⟨fb,off,bv,rfl,hfb,g0,g1,hbl⟩:=HC.o i f hf2;have g0:=(HB.o.cell (p:=⟨fb,off+i*2,none⟩) hfb).trans g0;have g1:=(HB.o.cell (p:=⟨fb,off+i*2+1,none⟩) hfb).trans g1;have st:=Zh (Qzd p i f hf2 QNc);obtain⟨ba,bc,rfl,hbn,hbc⟩:=hbl.cell;have HBC:=Zh hbc;obtain⟨bn,hbl2⟩:=Ze f.blocks.length;rw[hbl2] at hbn g1;unfold maxLen at hbn;have HBL:=Zh hbl2;have HIF:=Zh (List.mem_of_getElem? hf2);clear hf2 hbl hbc hbl2 B0;have hR:=Zh (fun (w2:World) (b:Below w.heap.size w w2)=>QIm KK.o hB b f.name);go_wp2_with fail;refine(hR.o _ (HB.o.trans ((Zb).mono ZO))).mono ?_;rintro e w2 ⟨rfl,hb2⟩;have hsz:=hb2.size;simp at hsz;have q0:w2.cell? ⟨wr.heap.size,0,none⟩=some (sv f.name):=(hb2.cell (p:=⟨wr.heap.size,0,none⟩) ZS).trans (World.cell?_alloc_new _ _ _ _);have q1:w2.cell? ⟨wr.heap.size,1,none⟩=some (.slice ba bn bc):=(hb2.cell (p:=⟨wr.heap.size,1,none⟩) ZS).trans (World.cell?_alloc_new _ _ _ _);have ba1:=(Below.refl wr.heap.size wr).alloc (Nat.le_refl _) (.cells #[sv f.name,.slice ba bn bc] 89);have hp0:=(hb2.cell (p:=⟨w.heap.size,0,none⟩) (by simp;omega)).trans ((ba1.cell (p:=⟨w.heap.size,0,none⟩) hz).trans hp0);have HB2:=Zh ((HB.o.trans (ba1.mono ZO)).trans (hb2.mono (by simp;omega)));obtain⟨bf,hbf⟩:=Ze wr.heap.size;rw[hbf] at q0 q1 hsz hz;rw[hbf];clear hb2 HB g0 g1 ba1 hbf hR
   cases e:QV f.name
   ·have hF:=Zh (QLo e);go_wp2;go_ret;exact⟨Qgb (by rw[hs.o,st.o,hF.o];rfl),HB2.o⟩
   have E:=Zh e;clear e;by_cases hb1:(bn:Int)<1
   ·have hF:=Zh (Qer f (by rw[HBL.o];omega));go_wp2;go_ret;exact⟨Qgb (by rw[hs.o,st.o,hF.o];rfl),HB2.o⟩
   by_cases hb16:(16:Int)<(bn:Int)
   ·have hF:=Zh (QMo f (by rw[HBL.o];omega));go_wp2;go_ret;exact⟨Qgb (by rw[hs.o,st.o,hF.o];rfl),HB2.o⟩
   have hF:=Zh (Qys f E.o (by rw[HBL.o];omega) (by rw[HBL.o];omega));go_wp2;obtain⟨wo,rfl⟩:∃wo:World,wo=w2:=⟨_,rfl⟩;go_loopw [43] (fun x wi=>∃k:Nat,k≤bn∧x=.int .i64 k∧Hid (Below w.heap.size w wi)∧bf<wi.heap.size∧wi.cell? ⟨w.heap.size,0,none⟩=some (.slice (some ⟨fb,off,none⟩) n c)∧wi.cell? ⟨bf,1,none⟩=some (.slice ba bn bc)∧Hid (f.blocks.all Qoc=(f.blocks.drop k).all Qoc)) (fun x _=>bn-(intOf x).toNat)
   case atStart=>exact⟨0,Nat.zero_le _,rfl,HB2,by omega,hp0,q1,by unfold Hid;simp⟩
   case round=>
    obtain⟨k,hk,rfl,HB,hbz,hp0,q1,hs2⟩:=hrel;by_cases hlt2:k<bn
    ·obtain⟨b,hb⟩:∃b,f.blocks[k]? = some b:=⟨_,List.getElem?_eq_getElem (show k<f.blocks.length by have:=HBL.o;omega)⟩;obtain⟨kb,koff,sv1,rfl,hkb,g0,g1,hsl⟩:=HBC.o k b hb;have g0:=(HB.o.cell (p:=⟨kb,koff+k*2,none⟩) hkb).trans g0;have g1:=(HB.o.cell (p:=⟨kb,koff+k*2+1,none⟩) hkb).trans g1;have st2:=Zh (Qzd f.blocks k b hb Qoc);obtain⟨sa,sc,rfl,hsn,hsc⟩:=hsl.cell;have HST:=Zh (fun (w2:World) (b2:Below w.heap.size w w2)=>QDd.keep (Qf.below b2) (Qf.below b2) hsl);have HFS:=Zh (fun s hs=>HFF.o f HIF.o b (List.mem_of_getElem? hb) s hs);obtain⟨sn,hsl2⟩:=Ze b.stmts.length;rw[hsl2] at hsn g1 HST;unfold maxLen at hsn;have HSL:=Zh hsl2;clear hb hsl hsc hsl2;have hR:=Zh (fun (w2:World) (b2:Below w.heap.size w w2)=>QIm KK.o hB b2 b.name);go_wp2_with fail;refine(hR.o _ (HB.o.trans ((Zb).mono ZO))).mono ?_;rintro e w2 ⟨rfl,hb2⟩;have hsz:=hb2.size;simp at hsz;have r0:w2.cell? ⟨wr.heap.size,0,none⟩=some (sv b.name):=(hb2.cell (p:=⟨wr.heap.size,0,none⟩) ZS).trans (World.cell?_alloc_new _ _ _ _);have r1:w2.cell? ⟨wr.heap.size,1,none⟩=some (.slice sa sn sc):=(hb2.cell (p:=⟨wr.heap.size,1,none⟩) ZS).trans (World.cell?_alloc_new _ _ _ _);have ba1:=(Below.refl wr.heap.size wr).alloc (Nat.le_refl _) (.cells #[sv b.name,.slice sa sn sc] 92);have hp0:=(hb2.cell (p:=⟨w.heap.size,0,none⟩) (by simp;omega)).trans ((ba1.cell (p:=⟨w.heap.size,0,none⟩) (by show w.heap.size<_;omega)).trans hp0);have q1:=(hb2.cell (p:=⟨bf,1,none⟩) (by simp;omega)).trans ((ba1.cell (p:=⟨bf,1,none⟩) hbz).trans q1);have HB2:=Zh ((HB.o.trans (ba1.mono ZO)).trans (hb2.mono (by simp;omega)));obtain⟨bb,hbb⟩:=Ze wr.heap.size;rw[hbb] at r0 r1 hsz hbz;rw[hbb];clear hb2 HB g0 g1 ba1 hbb hR
     cases e:QV b.name
     ·have hK:=Zh (Qon e);go_wp2;go_ret;exact⟨Qgb (by rw[hs.o,st.o,hF.o,hs2.o,st2.o,hK.o];rfl),HB2.o⟩
     have E:=Zh e;clear e;by_cases hc1:(sn:Int)<1
     ·have hK:=Zh (QZo b (by rw[HSL.o];omega));go_wp2;go_ret;exact⟨Qgb (by rw[hs.o,st.o,hF.o,hs2.o,st2.o,hK.o];rfl),HB2.o⟩
     by_cases hc32:(32:Int)<(sn:Int)
     ·have hK:=Zh (Qpn b (by rw[HSL.o];omega));go_wp2;go_ret;exact⟨Qgb (by rw[hs.o,st.o,hF.o,hs2.o,st2.o,hK.o];rfl),HB2.o⟩
     have hK:=Zh (Qtr b E.o (by rw[HSL.o];omega) (by rw[HSL.o];omega));have K:=Zh (Qck (w:=w2) (KwIn.keep KK.o fun k hk=>HB2.o.block k (Nat.lt_of_lt_of_le hk hB)) (Nat.le_trans hB HB2.o.size) b.stmts (.slice sa sn sc) (HST.o _ HB2.o) (HFS.o));obtain⟨r,hr⟩:=Ze (b.stmts.all stmtB);rw[hr] at K hK;clear hr;go_wp2_with fail;refine K.o.mono ?_;rintro e w3 ⟨rfl,hb3⟩;have hsz3:=hb3.size;have hp0:=(hb3.cell (p:=⟨w.heap.size,0,none⟩) (by show w.heap.size<_;omega)).trans hp0;have q1:=(hb3.cell (p:=⟨bf,1,none⟩) (by show bf<_;omega)).trans q1;have HB3:=Zh (HB2.o.trans (hb3.mono ZO));clear hb3 r0 r1 HB2
     cases r
     ·go_wp2;go_ret;exact⟨Qgb (by rw[hs.o,st.o,hF.o,hs2.o,st2.o,hK.o];rfl),HB3.o⟩
     ·go_wp2;go_roundw
      case rel=>exact⟨k+1,by omega,by go_num,HB3,by omega,hp0,q1,by unfold Hid;rw[hs2.o,st2.o,hK.o];rfl⟩
      case measure=>simp[intOf];omega
    ·have hall:Hid (QNc f=true):=by unfold Hid;rw[hF.o,hs2.o,List.drop_of_length_le (by have:=HBL.o;omega)];rfl
     go_wp2;go_roundw
     case rel=>exact⟨i+1,by omega,by go_num,HB,by omega,hp0,by unfold Hid;rw[hs.o,st.o,hall.o];rfl⟩
     case measure=>simp[intOf];omega
  ·go_wp2;go_ret;exact⟨Qgb (by rw[hs.o,List.drop_of_length_le (by have:=HL.o;omega)];rfl),HB.o⟩
theorem QFe {B:Nat}{w:World}(kw:KwIn B w)(hB:B≤w.heap.size)(p:List Qo)(v:Value)(h:QAa w v p)(hf:∀f∈p,∀b∈f.blocks,∀s∈b.stmts,FitS s):
  Calls Tryz.prog 154 #[.agg #[v]] w (QTj (QMa p) w):=by
 by_cases h1:1≤p.length
 ·by_cases h8:p.length≤8
  ·have e:QMa p=p.all QNc:=by unfold QMa;simp[h1,h8]
   rw[e];exact QDq kw hB p v h hf h1 h8
  ·have e:QMa p=false:=by unfold QMa;simp[h8]
   rw[e];obtain⟨a,c,rfl,hn,_⟩:=h.cell;have g1:decide ((p.length:Int)<1)=false:=by simp;omega
   have g8:decide ((8:Int)<(p.length:Int))=true:=by simp;omega
   clear h h1 h8 e hn;go_enter Tryz.func154,Tryz.ntmps154;go_wp2;go_ret;exact⟨rfl,Zb⟩
 ·have e:QMa p=false:=by unfold QMa;simp[h1]
  rw[e];obtain⟨a,c,rfl,hn,_⟩:=h.cell;have g1:decide ((p.length:Int)<1)=true:=by simp;omega
  clear h h1 e hn;go_enter Tryz.func154,Tryz.ntmps154;go_wp2;go_ret;exact⟨rfl,Zb⟩
end
section
open Go.RowKit
variable [Base]
structure Two (z nb eb:Nat)(x y:Int)(w w':World):Prop where
 below:Below z w w'
 rest:∀k,k<w.heap.size→k≠nb→k≠eb→w'.heap[k]? = w.heap[k]?
 nat:w'.heap[nb]? = some (.cells #[iv x] 3 (0,0))
 eat:w'.heap[eb]? = some (.cells #[iv y] 3 (0,0))
theorem Qej {w:World}{b:Nat}{a0:Value}{t:TypeId}{fr:Nat×Nat}(h:w.heap[b]? = some (.cells #[a0] t fr))(x:Value):(w.setCell ⟨b,0,none⟩ x).heap[b]? = some (.cells #[x] t fr):=by
 simp[World.setCell,Array.getElem?_modify,h]
theorem Qud {w:World}{b k:Nat}(h:b≠k)(x:Value):(w.setCell ⟨b,0,none⟩ x).heap[k]? = w.heap[k]?:=by
 simp[World.setCell,Array.getElem?_modify,h]
theorem Two.setN {z nb eb:Nat}{x y:Int}{w w':World}(h:Two z nb eb x y w w')(hz:z≤nb)(hne:nb≠eb)(x':Int):Two z nb eb x' y w (w'.setCell ⟨nb,0,none⟩ (iv x')):=
 ⟨h.below.setCell (p:=⟨nb,0,none⟩) hz _,fun k hk h1 h2=>(Qud (fun e=>h1 e.symm) _).trans (h.rest k hk h1 h2),Qej h.nat _,(Qud hne _).trans h.eat⟩
theorem Two.setE {z nb eb:Nat}{x y:Int}{w w':World}(h:Two z nb eb x y w w')(hz:z≤eb)(hne:nb≠eb)(y':Int):Two z nb eb x y' w (w'.setCell ⟨eb,0,none⟩ (iv y')):=
 ⟨h.below.setCell (p:=⟨eb,0,none⟩) hz _,fun k hk h1 h2=>(Qud (fun e=>h2 e.symm) _).trans (h.rest k hk h1 h2),(Qud (fun e=>hne e.symm) _).trans h.nat,Qej h.eat _⟩
theorem QJn (z nb eb:Nat)(s:QD)(u t:Value)(w:World)(x y:Int)(hz:z≤nb∧z≤eb∧nb≠eb)(hx:w.heap[nb]? = some (.cells #[iv x] 3 (0,0)))(hy:w.heap[eb]? = some (.cells #[iv y] 3 (0,0)))(h0:0≤x∧x≤1000000∧0≤y∧y≤1000000):
  Calls Tryz.prog 193 #[.agg #[iv s.op,sv s.dfn,u,t],.pointer (some ⟨nb,0,none⟩),.pointer (some ⟨eb,0,none⟩)] w (fun e w'=>e=.returned (.tuple #[])∧Two z nb eb (x+QHd s) (y+Qod s) w w'):=by
 have hnb:=Qb hx;have heb:=Qb hy;obtain⟨hz1,hz2,hne⟩:=hz;obtain⟨op,d,us,ts⟩:=s;obtain⟨W,hW⟩:=Ze (w.alloc (.cells #[iv op,sv d,u,t] 94));have T0:Two z nb eb x y w W:=by
  rw[←hW];exact⟨(Below.refl _ _).alloc ZO _,fun k hk _ _=>((Below.refl w.heap.size w).alloc (Nat.le_refl _) _).block k hk,Qfa _ hx,Qfa _ hy⟩
 have T:=Zh T0;have T1:=Zh (T0.setN hz1 hne (x+1));have x0:=(Qd T0.nat).1 0;have y0:=(Qd T0.eat).1 0;have xf:=(Qd T0.nat).2 0;have yf:=(Qd T0.eat).2 0;have s0:W.cell? ⟨w.heap.size,0,none⟩=some (iv op):=by rw[←hW];exact World.cell?_alloc_new _ _ _ _
 have HW:=Zh hW;clear T0 hW hx hy;simp at x0 y0;go_enter Tryz.func193,Tryz.ntmps193;go_upto_region 1 with(fail)
 rw[show w.alloc (.cells #[iv op,sv d,u,t] 94)=W from HW.o];go_upto_region 2 with(fail)
 have ws:w.heap.size<W.heap.size:=by rw[←HW.o];simp
 have hs1:W.heap[w.heap.size]? = some (.cells #[iv op,sv d,u,t] 94 (0,0)):=by rw[←HW.o];exact heap_alloc_new _ _
 have HS1:=Zh ((Qud (b:=nb) (k:=w.heap.size) (w:=W) ZO (iv (x+1))).trans hs1);obtain⟨W1,hW1⟩:=Ze (W.setCell ⟨nb,0,none⟩ (iv (x+1)));rw[show W.setCell ⟨nb,0,none⟩ (.int .i64 (x+1))=W1 from hW1];rw[hW1] at T1 HS1;clear x0 y0 xf yf s0 hW1 hs1 ws HW T;have x0:=(Qd T1.o.nat).1 0;have y0:=(Qd T1.o.eat).1 0;have xf:=(Qd T1.o.nat).2 0;have yf:=(Qd T1.o.eat).2 0;simp at x0 y0;obtain⟨s0,s1,s2,s3⟩:=Qt HS1.o;by_cases h3:op=3
 ·subst h3;have T2:=Zh ((T1.o.setN hz1 hne (x+1+1)).setE hz2 hne (y+3));have yy:=(Qd (T1.o.setN hz1 hne (x+1+1)).eat).1 0;have yz:=(Qd (T1.o.setN hz1 hne (x+1+1)).eat).2 0;simp at yy;go_wp2;exact bodyPost_end (v:=.tuple #[]) (by simp[results,Tryz.results193,go_sem]) rfl ⟨rfl,by rw[show x+QHd ⟨3,d,us,ts⟩=x+1+1 by unfold QHd;simp;omega,show y+Qod ⟨3,d,us,ts⟩=y+3 by unfold Qod;simp];exact T2.o⟩
 ·by_cases h8:op=8
  ·subst h8;have T2:=Zh (T1.o.setE hz2 hne (y+2));go_wp2;exact bodyPost_end (v:=.tuple #[]) (by simp[results,Tryz.results193,go_sem]) rfl ⟨rfl,by rw[show x+QHd ⟨8,d,us,ts⟩=x+1 by unfold QHd;simp,show y+Qod ⟨8,d,us,ts⟩=y+2 by unfold Qod;simp];exact T2.o⟩
  ·have T2:=Zh (T1.o.setE hz2 hne (y+1));go_wp2;exact bodyPost_end (v:=.tuple #[]) (by simp[results,Tryz.results193,go_sem]) rfl ⟨rfl,by rw[show x+QHd ⟨op,d,us,ts⟩=x+1 by unfold QHd;simp[h3],show y+Qod ⟨op,d,us,ts⟩=y+1 by unfold Qod;simp[h3,h8]];exact T2.o⟩
end
section
open Go.RowKit
variable [Base]
theorem QEr (l:List Int)(a:Int):l.foldl (· + ·) a=a+sumI l:=by
 unfold sumI
 induction l generalizing a with
|nil=>simp
|cons x r ih=>simp only[List.foldl_cons];rw[ih (a+x),ih (0+x)];omega
theorem QKl (l r:List Int):sumI (l++r)=sumI l+sumI r:=by
 unfold sumI;rw[List.foldl_append];exact QEr r _
end
section
open Go.RowKit
variable [Base]
theorem Qis (s:QD):1≤QHd s∧QHd s≤2∧1≤Qod s∧Qod s≤3:=by
 unfold QHd Qod
 repeat' split
 all_goals omega
def QDb (l:List QD):Int:=sumI (l.map QHd)
def QEb (l:List QD):Int:=sumI (l.map Qod)
theorem Qot (l:List QD):0≤QDb l∧QDb l≤2*(l.length:Int)∧0≤QEb l∧QEb l≤3*(l.length:Int):=by
 unfold QDb QEb
 induction l with
|nil=>simp[sumI]
|cons s r ih=>
  have h:=Qis s;simp only[List.map_cons,QGh,List.length_cons]
  push_cast
  omega
theorem Qsx {l:List QD}{k:Nat}{s:QD}(h:l[k]? = some s):QDb (l.take (k+1))=QDb (l.take k)+QHd s∧QEb (l.take (k+1))=QEb (l.take k)+Qod s:=by
 unfold QDb QEb;rw[List.take_add_one,h];simp[QKl,sumI]
end
section
open Go.RowKit
variable [Base]
theorem QUc {p:List Qo}(hv:QMa p=true):p.length≤8∧∀f∈p,f.blocks.length≤16∧∀b∈f.blocks,b.stmts.length≤32:=by
 unfold QMa at hv;simp only[Bool.and_eq_true,decide_eq_true_eq,List.all_eq_true] at hv;refine⟨by omega,fun f hf=>?_⟩;have h:=hv.2.2 f hf;unfold QNc at h;simp only[Bool.and_eq_true,decide_eq_true_eq,List.all_eq_true] at h;refine⟨by omega,fun b hb=>?_⟩;have h2:=h.2.2.2 b hb;unfold Qoc at h2;simp only[Bool.and_eq_true,decide_eq_true_eq,List.all_eq_true] at h2;omega
theorem QRm {α:Type}(l:List (List α))(c:Nat)(h:∀x∈l,x.length≤c):l.flatten.length≤c*l.length:=by
 induction l with
|nil=>simp
|cons x r ih=>
  have h1:=h x List.mem_cons_self;have h2:=ih fun y hy=>h y (List.mem_cons_of_mem _ hy)
  simp only[List.flatten_cons,List.length_append,List.length_cons,Nat.mul_succ];omega
def Qzf (f:Qo):List QD:=(f.blocks.map QI.stmts).flatten
theorem Qni {p:List Qo}{i:Nat}{f:Qo}(h:p[i]? = some f):QH (p.take (i+1))=QH (p.take i)++Qzf f:=by
 unfold QH Qzf;rw[List.take_add_one,h];simp
def Qga (l:List QI):List QD:=(l.map QI.stmts).flatten
theorem QWg {l:List QI}{i:Nat}{b:QI}(h:l[i]? = some b):Qga (l.take (i+1))=Qga (l.take i)++b.stmts:=by
 unfold Qga;rw[List.take_add_one,h];simp
theorem Qtm (a b:List QD):QDb (a++b)=QDb a+QDb b∧QEb (a++b)=QEb a+QEb b:=by
 unfold QDb QEb;simp[QKl]
theorem QFn {p:List Qo}(hv:QMa p=true){f:Qo}(hf:f∈p):(Qzf f).length≤512:=by
 have h:=(QUc hv).2 f hf;have h2:=QRm (f.blocks.map QI.stmts) 32 (by intro x hx;obtain⟨b,hb,rfl⟩:=List.mem_map.1 hx;exact h.2 b hb);unfold Qzf;rw[List.length_map] at h2;omega
theorem QVi {p:List Qo}(hv:QMa p=true)(i:Nat):(QH (p.take i)).length≤4096:=by
 have h2:=QRm ((p.take i).map Qzf) 512 (by intro x hx;obtain⟨f,hf,rfl⟩:=List.mem_map.1 hx;exact QFn hv (List.mem_of_mem_take hf));have h3:=(QUc hv).1;rw[List.length_map,List.length_take] at h2;show((p.take i).map Qzf).flatten.length≤_;omega
end
section
open Go.RowKit
variable [Base]
theorem QVg {p:List Qo}{i k j:Nat}{f:Qo}{b:QI}{s:QD}(hf:p[i]? = some f)(hb:f.blocks[k]? = some b)(hs:b.stmts[j]? = some s):∃r,QH p=(QH (p.take i)++Qga (f.blocks.take k)++b.stmts.take j)++s::r:=by
 refine⟨b.stmts.drop (j+1)++Qga (f.blocks.drop (k+1))++QH (p.drop (i+1)),?_⟩;have e1:p=p.take i++f::p.drop (i+1):=by
  have hi:i<p.length:=(List.getElem?_eq_some_iff.1 hf).1;rw[←(List.getElem?_eq_some_iff.1 hf).2,List.getElem_cons_drop,List.take_append_drop]
 have e2:f.blocks=f.blocks.take k++b::f.blocks.drop (k+1):=by
  rw[←(List.getElem?_eq_some_iff.1 hb).2,List.getElem_cons_drop,List.take_append_drop]
 have e3:b.stmts=b.stmts.take j++s::b.stmts.drop (j+1):=by
  rw[←(List.getElem?_eq_some_iff.1 hs).2,List.getElem_cons_drop,List.take_append_drop]
 have h1:∀x y:List Qo,QH (x++y)=QH x++QH y:=fun x y=>by simp[QH]
 have h2:∀x y:List QI,Qga (x++y)=Qga x++Qga y:=fun x y=>by simp[Qga]
 have h3:∀x y,QH (x::y)=Qga x.blocks++QH y:=fun x y=>by simp[QH,Qga]
 have h4:∀x y,Qga (x::y)=x.stmts++Qga y:=fun x y=>by simp[Qga]
 conv=>lhs;rw[e1,h1,h3,e2,h2,h4,e3]
 simp
end
section
open Go.RowKit
variable [Base]
theorem QVo {B z:Nat}(nb eb:Nat){w0 w:World}(kw:KwIn B w0)(hB:B≤w0.heap.size)(hz:w0.heap.size=z)(p:List Qo)(v:Value)(h:QAa w0 v p)(hv:QMa p=true)(hf:∀f∈p,∀b∈f.blocks,∀s∈b.stmts,FitS s)(b0:Below z w0 w)(St:List QD→World→Prop)(HA:∀d x y,St d x→Below x.heap.size x y→St d y)(HS:∀(d:List QD) (s:QD) (r:List QD) (u t:Value) (x:World),QH p=d++s::r→St d x→Below z w0 x→Qea w0 u s.uses→(∃a n c,t=.slice a n c) →
   Calls Tryz.prog 193 #[.agg #[iv s.op,sv s.dfn,u,t],.pointer (some ⟨nb,0,none⟩),.pointer (some ⟨eb,0,none⟩)] x (fun e y=>e=.returned (.tuple #[])∧St (d++[s]) y∧Below z x y))(s0:St [] w):
  Calls Tryz.prog 104 #[.agg #[v],.func (.func 193) #[] #[.pointer (some ⟨nb,0,none⟩),.pointer (some ⟨eb,0,none⟩)]] w (fun e y=>e=.returned (.tuple #[])∧St (QH p) y∧Below z w0 y):=by
 have zw:z≤w.heap.size:=by have:=b0.size;omega
 have C0:=(Below.refl w.heap.size w).alloc (Nat.le_refl _) (.cells #[v] 25);have B0:=b0.trans (C0.mono zw);have HV:=Zh (QFe (w:=w.alloc (.cells #[v] 25)) (kw.keep fun k hk=>B0.block k ZO) (by simp;omega) p v (h.keep (Qf.below (hz▸B0)) (Qf.below (hz▸B0)) (Qf.below (hz▸B0)) (Qf.below (hz▸B0))) hf);rw[hv] at HV;have S0:=Zh (HA _ _ _ s0 C0);have HHA:=Zh HA;have HHS:=Zh HS;obtain⟨a,c,rfl,hn,hc⟩:=h.cell;obtain⟨n,hl⟩:=Ze p.length;rw[hl] at hn HV S0 ⊢;have n8:n≤8:=by have:=(QUc hv).1;omega
 have HL:=Zh hl;have HC:=Zh hc;have HF:=Zh hf;have HW:=Zh (QUc hv);rw[hl] at B0;have HB0:=Zh B0;have hbs:Base.b≤z:=by have:=kw.bs;omega
 clear h hc kw B0 hl hf b0 hv C0 s0 HA HS hn;go_enter Tryz.func104,Tryz.ntmps104;go_wp2_with fail;refine HV.o.mono ?_;rintro e w1 ⟨rfl,b⟩;have p0:w1.heap[w.heap.size]? = some (.cells #[.slice a n c] 25 (0,0)):=(b.block w.heap.size ZS).trans (heap_alloc_new _ _);have S1:=Zh (HHA.o _ _ _ S0.o b);have hsz:=b.size;simp at hsz;have B1:=Zh (HB0.o.trans (b.mono (by simp;omega)));obtain⟨bp,hbp⟩:=Ze w.heap.size;rw[hbp] at p0 hsz zw;rw[hbp];have HP:=Zh p0;have q0:=(Qd p0).1 0;simp at q0;clear b p0 hbp HB0 S0 HV;go_wp2;clear q0;go_loopw [16] (fun x wr=>∃i:Nat,i≤n∧x=.int .i64 i∧Hid (Below z w0 wr)∧z≤wr.heap.size∧Hid (St (QH (p.take i)) wr)) (fun x _=>n-(intOf x).toNat)
 case atStart=>exact⟨0,Nat.zero_le _,rfl,B1,by omega,S1⟩
 case round=>
  obtain⟨i,hi,rfl,HB,hzr,HSt⟩:=hrel;by_cases hlt:i<n
  ·obtain⟨f,hf2⟩:∃f,p[i]? = some f:=⟨_,List.getElem?_eq_getElem (show i<p.length by have:=HL.o;omega)⟩;obtain⟨fb,off,bv,rfl,hfb,g0,g1,hbl⟩:=HC.o i f hf2;have g0:=(HB.o.cell (p:=⟨fb,off+i*2,none⟩) (by show fb<z;omega)).trans g0;have g1:=(HB.o.cell (p:=⟨fb,off+i*2+1,none⟩) (by show fb<z;omega)).trans g1;obtain⟨ba,bc,rfl,hbn,hbc⟩:=hbl.cell;have HBC:=Zh hbc;obtain⟨bn,hbl2⟩:=Ze f.blocks.length;rw[hbl2] at hbn g1;have b16:bn≤16:=by have:=(HW.o.2 f (List.mem_of_getElem? hf2)).1;omega
   have HBL:=Zh hbl2;have HFI:=Zh hf2;clear hf2 hbl hbc hbl2 hbn;have A1:=(Below.refl wr.heap.size wr).alloc (Nat.le_refl _) (.cells #[sv f.name,.slice ba bn bc] 89);have HB2:=Zh (HB.o.trans (A1.mono hzr));have HS2:=Zh (show St (QH (p.take i)++Qga (f.blocks.take 0)) (wr.alloc (.cells #[sv f.name,.slice ba bn bc] 89)) by rw[show QH (p.take i)++Qga (f.blocks.take 0)=QH (p.take i) by simp[Qga]];exact HHA.o _ _ _ HSt.o A1);clear A1 HB HSt;go_wp2;clear g0 g1;go_loopw [23] (fun x wi=>∃k:Nat,k≤bn∧x=.int .i64 k∧Hid (Below z w0 wi)∧z≤wi.heap.size∧Hid (St (QH (p.take i)++Qga (f.blocks.take k)) wi)) (fun x _=>bn-(intOf x).toNat)
   case atStart=>exact⟨0,Nat.zero_le _,rfl,HB2,by simp;omega,HS2⟩
   case round=>
    obtain⟨k,hk,rfl,HB,hzi,HSt⟩:=hrel;by_cases hlt2:k<bn
    ·obtain⟨b,hb⟩:∃b,f.blocks[k]? = some b:=⟨_,List.getElem?_eq_getElem (show k<f.blocks.length by have:=HBL.o;omega)⟩;obtain⟨kb,koff,sv1,rfl,hkb,g0,g1,hsl⟩:=HBC.o k b hb;have g0:=(HB.o.cell (p:=⟨kb,koff+k*2,none⟩) (by show kb<z;omega)).trans g0;have g1:=(HB.o.cell (p:=⟨kb,koff+k*2+1,none⟩) (by show kb<z;omega)).trans g1;obtain⟨sa,sc,rfl,hsn,hsc⟩:=hsl.cell;have HSC:=Zh hsc;obtain⟨sn,hsl2⟩:=Ze b.stmts.length;rw[hsl2] at hsn g1;have s32:sn≤32:=by have:=(HW.o.2 f (List.mem_of_getElem? HFI.o)).2 b (List.mem_of_getElem? hb);omega
     have HSL:=Zh hsl2;have HBI:=Zh hb;clear hb hsl hsc hsl2 hsn;have A1:=(Below.refl wr.heap.size wr).alloc (Nat.le_refl _) (.cells #[sv b.name,.slice sa sn sc] 92);have HB3:=Zh (HB.o.trans (A1.mono hzi));have HS3:=Zh (show St (QH (p.take i)++Qga (f.blocks.take k)++b.stmts.take 0) (wr.alloc (.cells #[sv b.name,.slice sa sn sc] 92)) by rw[List.take_zero,List.append_nil];exact HHA.o _ _ _ HSt.o A1);clear A1 HB HSt;go_wp2;clear g0 g1;go_loopw [30] (fun x wi=>∃j:Nat,j≤sn∧x=.int .i64 j∧Hid (Below z w0 wi)∧z≤wi.heap.size∧Hid (St (QH (p.take i)++Qga (f.blocks.take k)++b.stmts.take j) wi)) (fun x _=>sn-(intOf x).toNat)
     case atStart=>exact⟨0,Nat.zero_le _,rfl,HB3,by simp;omega,HS3⟩
     case round=>
      obtain⟨j,hj,rfl,HB,hzj,HSt⟩:=hrel;by_cases hlt3:j<sn
      ·obtain⟨s,hs⟩:∃s,b.stmts[j]? = some s:=⟨_,List.getElem?_eq_getElem (show j<b.stmts.length by have:=HSL.o;omega)⟩;obtain⟨b4,o4,u,t,rfl,hb4,c0,c1,c2,c3,hu,ht⟩:=HSC.o j s hs;obtain⟨ua,uc,rfl,-⟩:=hu.cell;obtain⟨ta,tc,rfl,-⟩:=ht.cell;obtain⟨un,hun⟩:=Ze s.uses.length;obtain⟨tn,htn⟩:=Ze s.targets.length;rw[hun] at hu c2;rw[htn] at ht c3;obtain⟨r,hsp⟩:=QVg HFI.o HBI.o hs;have c0:=(HB.o.cell (p:=⟨b4,o4+j*4,none⟩) (by show b4<z;omega)).trans c0;have c1:=(HB.o.cell (p:=⟨b4,o4+j*4+1,none⟩) (by show b4<z;omega)).trans c1;have c2:=(HB.o.cell (p:=⟨b4,o4+j*4+2,none⟩) (by show b4<z;omega)).trans c2;have c3:=(HB.o.cell (p:=⟨b4,o4+j*4+3,none⟩) (by show b4<z;omega)).trans c3;have A1:=(Below.refl wr.heap.size wr).alloc (Nat.le_refl _) (.cells #[iv s.op,sv s.dfn,.slice ua un uc,.slice ta tn tc] 94);have HB4:=Zh (HB.o.trans (A1.mono hzj));have K:=Zh (HHS.o _ s r (.slice ua un uc) (.slice ta tn tc) (wr.alloc (.cells #[iv s.op,sv s.dfn,.slice ua un uc,.slice ta tn tc] 94)) hsp (HHA.o _ _ _ HSt.o A1) HB4.o hu ⟨_,_,_,rfl⟩);have HE:=Zh (show QH (p.take i)++Qga (f.blocks.take k)++b.stmts.take j++[s]=QH (p.take i)++Qga (f.blocks.take k)++b.stmts.take (j+1) by rw[List.take_add_one,hs];simp);have zw2:z≤(wr.alloc (.cells #[iv s.op,sv s.dfn,.slice ua un uc,.slice ta tn tc] 94)).heap.size:=by simp;omega
       clear A1 HB HSt hu ht hun htn hsp hs;go_wp2_with fail;refine K.o.mono ?_;rintro e w2 ⟨rfl,S2,b2⟩;have HB5:=Zh (HB4.o.trans b2);have HSt:=Zh (HE.o▸S2);have hz2:z≤w2.heap.size:=Nat.le_trans zw2 b2.size;clear S2 b2 K zw2;go_wp2;go_roundw
       case rel=>exact⟨j+1,by omega,by go_num,HB5,hz2,HSt⟩
       case measure=>simp[intOf];omega
      ·have HSt:=Zh (show St (QH (p.take i)++Qga (f.blocks.take (k+1))) wr by rw[QWg HBI.o,←List.append_assoc,←show b.stmts.take j=b.stmts from List.take_of_length_le (by rw[HSL.o];omega)];exact HSt.o);go_wp2;go_roundw
       case rel=>exact⟨k+1,by omega,by go_num,HB,hzj,HSt⟩
       case measure=>simp[intOf];omega
    ·have HSt:=Zh (show St (QH (p.take (i+1))) wr by rw[Qni HFI.o,show Qzf f=Qga (f.blocks.take k) by rw[List.take_of_length_le (by rw[HBL.o];omega)];rfl];exact HSt.o);go_wp2;go_roundw
     case rel=>exact⟨i+1,by omega,by go_num,HB,hzi,HSt⟩
     case measure=>simp[intOf];omega
  ·have HSt:=Zh (show St (QH p) wr by rw[←show p.take i=p from List.take_of_length_le (by rw[HL.o];omega)];exact HSt.o);go_wp2;exact bodyPost_end (v:=.tuple #[]) (by simp[results,Tryz.results104,go_sem]) rfl ⟨rfl,HSt.o,HB.o⟩
end
end Go.Proofs.YtijekimobahgpaaGreatDoor
