/- A part of the proof. -/
import Derived.Test.YtijekimobahgpaaGreatDoorVa09
set_option linter.unusedVariables false
set_option linter.unusedSimpArgs false
set_option linter.unusedSectionVars false
set_option maxRecDepth 100000
set_option maxHeartbeats 16000000
namespace Go.Proofs.YtijekimobahgpaaGreatDoor
section
open Go.RowKit
variable [Base]
abbrev FT:TypeId:=154
def QTm (n:Qra):List Value:=[iv n.node,iv n.var]
def Quf (l:List Qra):List Value:=(l.map QTm).flatten
def Qqd (w:World)(v:Value)(l:List Qra):Prop:=Qg w FT 2 v (Quf l)
def QTb (z:Nat)(w:World)(v:Value)(l:List Qra):Prop:=w.ownsRow z FT 2 v l.length (Quf l)
theorem QPo (l:List Qra):∀x∈l.map QTm,x.length=2:=fun x hx=>by
 obtain⟨n,-,rfl⟩:=List.mem_map.1 hx
 rfl
theorem QQo (a b:List Qra):Quf (a++b)=Quf a++Quf b:=by simp[Quf]
theorem QTb.at_ {z:Nat}{w:World}{v:Value}{l:List Qra}(h:QTb z w v l):Qqd w v l:=Qg.of_owns h
theorem QTb.below {z:Nat}{w w':World}{v:Value}{l:List Qra}(h:QTb z w v l)(b:Below w.heap.size w w'):QTb z w' v l:=QZd h b
theorem QTb.nil {z:Nat}{w:World}:QTb z w (.slice none 0 0) []:=by simp[QTb,World.ownsRow,Quf]
theorem QTb.push {z g cap:Nat}{w:World}{l:List Qra}{n:Qra}(h:w.ownsRow z FT 2 (.slice (some ⟨g,0,none⟩) (l.length+1) cap) (l.length+1) (Quf l++QTm n)):QTb z w (.slice (some ⟨g,0,none⟩) (l.length+1) cap) (l++[n]):=by
 unfold QTb;rw[QQo,List.length_append]
 simpa [Quf] using h
theorem Qqd.below {w w':World}{v:Value}{l:List Qra}(h:Qqd w v l)(b:Below w.heap.size w w'):Qqd w' v l:=h.same (Qf.below b)
theorem Qqd.cell {w:World}{v:Value}{l:List Qra}(h:Qqd w v l):∃a c,v=.slice a l.length c∧l.length≤maxLen∧l.length≤c∧c≤maxLen∧∀k n,l[k]? = some n→∃b off,a=some ⟨b,off,none⟩∧b<w.heap.size ∧
  w.cell? ⟨b,off+k*2,none⟩=some (iv n.node)∧w.cell? ⟨b,off+k*2+1,none⟩=some (iv n.var):=by
 obtain⟨a,c,e,hm,h3,h4,hc⟩:=QYg h (QPo l) ZO;rw[List.length_map] at e hm h3;refine⟨a,c,e,hm,h3,h4,fun k n hk=>?_⟩;have hx:(l.map QTm)[k]? = some (QTm n):=by rw[List.getElem?_map,hk];rfl
 obtain⟨b,off,rfl,hlt,_,hc2⟩:=hc k _ hx;exact⟨b,off,rfl,hlt,hc2 0 ZO,hc2 1 ZO⟩
theorem QDk:(Tryz.prog.info? FT).map (fun i=>(i.zero,i.size,i.bytes))=some (some (Value.agg #[iv 0,iv 0]),2,16):=by kernel_rfl
theorem Qse {α:Type} [DecidableEq α]{l:List α}{k:Nat}{x:α}(h:l[k]? = some x)(hn:x∉l.take k):idxI l x=(k:Int):=by
 unfold idxI;rw[if_pos (List.mem_of_getElem? h),QAg h hn]
theorem QBj (l:List Str)(v:Value)(x:Str)(w:World)(h:Qea w v l):
  Calls Tryz.prog 160 #[v,sv x] w (IntQ (idxI l x) w):=by
 obtain⟨a,c,rfl,hn,hc⟩:=h.cell;have HC:=Zh hc;obtain⟨n,hl⟩:=Ze l.length;rw[hl] at hn ⊢;have HL:=Zh hl;clear hc h hl;unfold maxLen at hn;go_enter Tryz.func160,Tryz.ntmps160;go_wp2;go_loopw [8] (fun y wr=>∃k:Nat,k≤n∧y=.int .i64 k∧w=wr∧Hid (x∉l.take k)) (fun y _=>n-(intOf y).toNat)
 case atStart=>exact⟨0,Nat.zero_le _,rfl,rfl,by unfold Hid;simp⟩
 case round=>
  obtain⟨k,hk,rfl,rfl,HNI⟩:=hrel;by_cases hlt:k<n
  ·obtain⟨y,hy⟩:∃y,l[k]? = some y:=⟨_,List.getElem?_eq_getElem (by rw[HL.o];exact hlt)⟩;obtain⟨b1,o1,rfl,hb1,g1⟩:=HC.o k y hy;by_cases hxy:y=x
   ·subst hxy;have HK:=Zh (show idxI l y=(k:Int) from Qse hy HNI.o);clear hy;go_wp2;go_ret;exact⟨Qob HK.o.symm,Below.refl _ _⟩
   ·have HN1:=Zh (show x∉l.take (k+1) by
     rw[List.take_add_one,hy];intro h;rcases List.mem_append.1 h with h|h
     ·exact HNI.o h
     ·simp at h;exact hxy h.symm)
    have he1:(x==y)=false:=by simpa using fun e=>hxy (Eq.symm e)
    clear hy hxy;go_wp2;go_roundw
    case rel=>exact⟨k+1,by omega,by go_num,(by first|rfl|trivial),HN1⟩
    case measure=>simp[intOf];omega
  ·have HK:=Zh (show idxI l x = -1 by
    unfold idxI;rw[if_neg (fun h=>HNI.o (by rwa [List.take_of_length_le (by rw[HL.o];omega)]))])
   go_wp2;go_ret;exact⟨Qob HK.o.symm,Below.refl _ _⟩
def Qth (vars:List Str)(p:List Qo)(n:Qx)(i:Nat):List Qra:=if n.kind=3 then match QFd p n with|some s=>if dfnB s.op then [⟨i,idxI vars s.dfn⟩] else []|none=>[] else []
theorem QLj (vars:List Str)(p:List Qo):∀(a b:List Qx) (i:Nat),QUa vars p (a++b) i=QUa vars p a i++QUa vars p b (i+a.length)
|[],b,i=>by simp[QUa]
|x::r,b,i=>by
  show Qth vars p x i++QUa vars p (r++b) (i+1)=_
  rw[QLj vars p r b (i+1),←List.append_assoc,List.length_cons,show i+1+r.length=i+(r.length+1) by omega]
  rfl
theorem Qan {vars:List Str}{p:List Qo}{l:List Qx}{i:Nat}{n:Qx}(h:l[i]? = some n):QUa vars p (l.take (i+1)) 0=QUa vars p (l.take i) 0++Qth vars p n i:=by
 rw[List.take_add_one,h];show QUa vars p (l.take i++[n]) 0=_;rw[QLj,(Qgd h).2,Nat.zero_add];show _++(Qth vars p n i++[])=_;rw[List.append_nil]
theorem QJg (vars:List Str)(p:List Qo):∀(l:List Qx) (i:Nat),(QUa vars p l i).length≤l.length
|[],i=>by simp[QUa]
|x::r,i=>by
  have h:=QJg vars p r (i+1)
  show(Qth vars p x i++QUa vars p r (i+1)).length≤_
  have h2:(Qth vars p x i).length≤1:=by
   unfold Qth
   repeat' split
   all_goals simp
  simp only[List.length_append,List.length_cons];omega
def QFu (l:List Qra)(w:World)(e:Ending)(w':World):Prop:=∃v,e=.returned v∧QTb w.heap.size w' v l∧Below w.heap.size w w'
theorem QIs {B:Nat}{w:World}(kw:KwIn B w)(hB:B≤w.heap.size)(p:List Qo)(v:Value)(h:QAa w v p)(hf:∀f∈p,∀b∈f.blocks,∀s∈b.stmts,FitS s)(vars:List Str)(vv:Value)(hvv:Qea w vv vars):
  Calls Tryz.prog 97 #[.agg #[v],vv] w (QFu (QUa vars p (QR p) 0) w):=by
 obtain⟨z,hz⟩:=Ze w.heap.size;have hbz:Base.b≤z:=by have:=kw.bs;omega
 have HV:=Zh (fun (x:World) (b:Below z w x)=>Qyj (kw.keep fun k hk=>b.block k ZO) (by have:=b.size;omega) p v (h.keep (Qf.below (hz▸b)) (Qf.below (hz▸b)) (Qf.below (hz▸b)) (Qf.below (hz▸b))) hf);have HS:=Zh (fun (x:World) (b:Below z w x) y=>Qjk (kw.keep fun k hk=>b.block k ZO) (by have:=b.size;omega) p v (h.keep (Qf.below (hz▸b)) (Qf.below (hz▸b)) (Qf.below (hz▸b)) (Qf.below (hz▸b))) hf y);have HI:=Zh (fun (x:World) (b:Below z w x) y=>QBj vars vv y x (Qg.same hvv (Qf.below (hz▸b))));obtain⟨a,c,rfl,hn,-⟩:=h.cell;obtain⟨va,vc,rfl,-,-⟩:=hvv.cell;obtain⟨vn,hvn⟩:=Ze vars.length;obtain⟨n,hl⟩:=Ze p.length;rw[hl] at hn HV HS ⊢;rw[hvn] at HI ⊢;obtain⟨N,hN⟩:=Ze (QR p);rw[hN] at HV ⊢;have hN256:N.length≤256:=by rw[←hN];exact Qme
 have HNP:=Zh hN;obtain⟨W,hW⟩:=Ze (w.alloc (.cells #[.slice a n c] 25));have HPB:=Zh (show W.heap[z]? = some (.cells #[.slice a n c] 25 (0,0)) by rw[←hW,←hz];exact heap_alloc_new _ _);have BW:=Zh (show Below z w W by rw[←hW,←hz];exact Zb);have HWW:=Zh hW;have HZ:=Zh hz;clear h hW kw hf hN hl hvv hvn;have x0:=(Qd HPB.o).1 0;simp at x0;go_enter Tryz.func97,Tryz.ntmps97;go_upto_region 1 with(fail)
 rw[show w.alloc (.cells #[.slice a n c] 25)=W from HWW.o]
 try rw[hz]
 go_wp2_with fail;refine(HV.o W BW.o).mono ?_;rintro e w1 ⟨nv,rfl,ho,b1⟩;obtain⟨na,nc,rfl,hnm,hnc1,hnc2,hcell⟩:=ho.at_.cell;have HCE:=Zh hcell;obtain⟨m,hm⟩:=Ze N.length;rw[hm] at hN256 ⊢;have HM:=Zh hm;have HPB1:=Zh (Qc HPB.o b1 (Qb HPB.o));have HB1:=Zh (BW.o.trans (b1.mono (by have:=BW.o.size;omega)));have hs1:z<w1.heap.size:=Qb HPB1.o;clear b1 hcell ho x0 hm hnm hnc1 hnc2;go_wp2;go_loopw [5,13] (fun V y wr=>∃(k:Nat) (Y:Value),k≤m∧Y=V∧y=.int .i64 k∧Hid (Below w1.heap.size w1 wr)∧w1.heap.size≤wr.heap.size∧Hid (QTb w1.heap.size wr Y (QUa vars p (N.take k) 0))) (fun _ y _=>m-(intOf y).toNat)
 case atStart=>exact⟨0,_,Nat.zero_le _,rfl,rfl,Below.refl _ _,Nat.le_refl _,QTb.nil⟩
 case round=>
  obtain⟨k,V,hk,rfl,rfl,HB,hsr,HO⟩:=hrel;by_cases hlt:k<m;rotate_left
  ·have HO2:=Zh (show QTb w1.heap.size wr V (QUa vars p N 0) by rw[←show N.take k=N from List.take_of_length_le (by rw[HM.o];omega)];exact HO.o);have HB2:=Zh (HB1.o.trans (HB.o.mono ZO));go_wp2;exact bodyPost_ret (v:=V) (by simp[results,Tryz.results97,go_sem]) rfl ⟨_,rfl,by rw[HZ.o];exact Qjm HO2.o ZO,by rw[HZ.o];exact HB2.o⟩
  ·obtain⟨y,hy⟩:∃y,N[k]? = some y:=⟨_,List.getElem?_eq_getElem (by rw[HM.o];exact hlt)⟩;obtain⟨b4,o4,rfl,hb4,c0,c1,c2,c3⟩:=HCE.o k y hy;have c0:=(HB.o.cell (p:=⟨b4,o4+k*4,none⟩) hb4).trans c0;have c1:=(HB.o.cell (p:=⟨b4,o4+k*4+1,none⟩) hb4).trans c1;have c2:=(HB.o.cell (p:=⟨b4,o4+k*4+2,none⟩) hb4).trans c2;have c3:=(HB.o.cell (p:=⟨b4,o4+k*4+3,none⟩) hb4).trans c3;have HDT:=Zh (Qan (vars:=vars) (p:=p) hy);have HSO:=Zh (show insN y=true→QAf p y=QFd p y from fun h=>by unfold QAf;rw[if_pos ⟨h,by rw[HNP.o];exact List.mem_of_getElem? hy⟩]);have hlen:=QJg vars p (N.take k) 0;rw[List.length_take] at hlen;obtain⟨D,hD⟩:=Ze (QUa vars p (N.take k) 0);rw[hD] at HDT HO hlen;have hD256:D.length≤256:=by omega
   obtain⟨y1,y2,y3,y4⟩:=y;simp only at c0 c1 c2 c3;have BX:=(Below.refl wr.heap.size wr).alloc (Nat.le_refl _) (.cells #[iv y1,iv y2,iv y3,iv y4] 108);obtain⟨U,hU⟩:=Ze (wr.alloc (.cells #[iv y1,iv y2,iv y3,iv y4] 108));have BU:=Zh (hU▸BX);have HXB:=Zh (show U.heap[wr.heap.size]? = some (.cells #[iv y1,iv y2,iv y3,iv y4] 108 (0,0)) by rw[←hU];exact heap_alloc_new _ _);have HUU:=Zh hU;have zwr:z≤wr.heap.size:=by omega
   have HBU:=Zh (HB1.o.trans ((HB.o.trans (BU.o.mono hsr)).mono ZO));have HBU1:=Zh (HB.o.trans (BU.o.mono hsr));have HOU:=Zh (HO.o.below BU.o);have HPU:=Zh (Qc HPB1.o HBU1.o hs1);have zU:z≤U.heap.size:=Nat.le_trans zwr BU.o.size;obtain⟨xb,hxb⟩:=Ze wr.heap.size;rw[hxb] at HXB BU;have hxz:z<xb:=by omega
   clear hy hU BX hlen hD HB HO;go_upto_region 5 with(fail)
   rw[show wr.alloc (.cells #[iv y1,iv y2,iv y3,iv y4] 108)=U from HUU.o]
   try rw[hxb]
   clear c0 c1 c2 c3;obtain⟨d0,d1,d2,d3⟩:=Qt HXB.o;have x0:=(Qd HPU.o).1 0;simp at x0;go_wp2_with fail;refine(HS.o U HBU.o ⟨y1,y2,y3,y4⟩).mono ?_;rintro e w3 ⟨u,t,rfl,hu,ht,b3⟩;obtain⟨ua,uc,rfl,-⟩:=hu.cell;obtain⟨ta,tc,rfl,-⟩:=ht.cell;obtain⟨r,hr⟩:=Ze (QAf p ⟨y1,y2,y3,y4⟩);rw[hr] at HSO ⊢;clear hu ht hr;obtain⟨⟨op,dn,us,ts⟩,hs⟩:∃s,r.getD Qie=s:=⟨_,rfl⟩;rw[hs];simp only;obtain⟨un,hun⟩:=Ze us.length;obtain⟨tn,htn⟩:=Ze ts.length;rw[hun,htn];have HRS:=Zh hs;clear hs hun htn d0 d1 d2 d3 x0;have HDF:=Zh (show Qth vars p ⟨y1,y2,y3,y4⟩ k=if y1=3∧dfnB op=true then [⟨k,idxI vars dn⟩] else [] by
    unfold Qth;by_cases h3:y1=3
    ·subst h3;rw[if_pos rfl,←HSO.o (by simp[insN])]
     cases r with
    |none=>
      have h0:=HRS.o;injection h0 with h1 h2 h3 h4
      subst h1;simp[dfnB]
    |some s=>
      have h0:=HRS.o;simp only[Option.getD_some] at h0;subst h0;simp
    ·rw[if_neg h3,if_neg (fun h=>h3 h.1)])
   obtain⟨V3,hV3⟩:=Ze (w3.alloc (.cells #[iv op,sv dn,.slice ua un uc,.slice ta tn tc] 94));have BV:=(Below.refl w3.heap.size w3).alloc (Nat.le_refl _) (.cells #[iv op,sv dn,.slice ua un uc,.slice ta tn tc] 94);rw[hV3] at BV;have b3V:=b3.trans (BV.mono b3.size);have HSB:=Zh (show V3.heap[w3.heap.size]? = some (.cells #[iv op,sv dn,.slice ua un uc,.slice ta tn tc] 94 (0,0)) by rw[←hV3];exact heap_alloc_new _ _);have HXV:=Zh (Qc HXB.o b3V (Qb HXB.o));have HOV:=Zh (HOU.o.below b3V);have HBV:=Zh (HBU1.o.trans (b3V.mono (by have:=HBU1.o.size;omega)));have zV:z≤V3.heap.size:=by have:=b3V.size;omega
   have sV:w1.heap.size≤V3.heap.size:=HBV.o.size;have HV3:=Zh hV3;obtain⟨sb,hsb⟩:=Ze w3.heap.size;rw[hsb] at HSB;clear b3 BV b3V hV3 HBU HOU HPU HXB;go_upto_region 6 with(fail)
   rw[show w3.alloc (.cells #[iv op,sv dn,.slice ua un uc,.slice ta tn tc] 94)=V3 from HV3.o]
   try rw[hsb]
   clear hsb;obtain⟨d0,d1,d2,d3⟩:=Qt HXV.o;obtain⟨s0,s1,s2,s3⟩:=Qt HSB.o;by_cases h3:y1=3;rotate_left
   ·have h3':(y1==3)=false:=by simpa using h3
    have HO3:=Zh (show QTb w1.heap.size V3 V (QUa vars p (N.take (k+1)) 0) by rw[HDT.o,HDF.o,if_neg (fun h=>h3 h.1),List.append_nil];exact HOV.o);clear h3;go_wp2;go_roundw
    case rel=>exact⟨k+1,_,by omega,rfl,by go_num,HBV,sV,HO3⟩
    case measure=>simp[intOf];omega
   ·have h3':(y1==3)=true:=by simpa using h3
    obtain⟨db,hdb⟩:=Ze (dfnB op);rw[hdb] at HDF;have KD:=Zh (hdb▸@Qbn _ ⟨op,dn,us,ts⟩ (.slice ua un uc) (.slice ta tn tc) V3);clear hdb;go_wp2_with fail;refine KD.o.mono ?_;rintro e w4 ⟨rfl,b4'⟩;have HO4:=Zh (HOV.o.below b4');have HB4:=Zh (HBV.o.trans (b4'.mono sV));have HSB4:=Zh (Qc HSB.o b4' (Qb HSB.o));have sV4:w1.heap.size≤w4.heap.size:=HB4.o.size;clear b4' d0 d1 d2 d3 s0 s1 s2 s3 KD
    cases db with
   |false=>
     have HO3:=Zh (show QTb w1.heap.size w4 V (QUa vars p (N.take (k+1)) 0) by rw[HDT.o,HDF.o,if_neg ZS,List.append_nil];exact HO4.o);clear h3;go_wp2;go_roundw
     case rel=>exact⟨k+1,_,by omega,rfl,by go_num,HB4,sV4,HO3⟩
     case measure=>simp[intOf];omega
   |true=>
     have HB04:=Zh (HB1.o.trans (HB4.o.mono ZO));obtain⟨s0,s1,s2,s3⟩:=Qt HSB4.o;have KI:=Zh (HI.o w4 HB04.o dn);obtain⟨ix,hix⟩:=Ze (idxI vars dn);rw[hix] at KI HDF;have HDF2:=Zh (show Qth vars p ⟨y1,y2,y3,y4⟩ k=[⟨k,ix⟩] by rw[HDF.o,if_pos ⟨h3,rfl⟩]);clear h3 hix;go_wp2_with fail;refine KI.o.mono ?_;rintro e w5 ⟨rfl,b5⟩;have HO5:=Zh (HO4.o.below b5);have HB5:=Zh (HB4.o.trans (b5.mono sV4));have zw5:z≤w5.heap.size:=by have:=b5.size;omega
     have sV5:w1.heap.size≤w5.heap.size:=by have:=b5.size;omega
     clear b5 s0 s1 s2 s3 KI;go_wp2_with (at_builtin;refine QL [iv (k:Int),iv ix] rfl _ _ _ rfl w1.heap.size FT _ 2 16 Tryz.underlying101 QDk rfl ZO _ _ _ HO5.o rfl rfl rfl rfl (by unfold maxLen;omega) ZO sV5 ?_;intro g cap w6 ho hg hzg _;have HO6:=Zh (QTb.push (n:=⟨(k:Int),ix⟩) ho);have HB6:=Zh (HB5.o.trans (Below.of_grown hg HO5.o sV5));clear ho hg hzg);go_roundw
     case rel=>exact⟨k+1,_,by omega,rfl,by go_num,HB6,HB6.o.size,Zh (by rw[HDT.o,HDF2.o];exact HO6.o)⟩
     case measure=>simp[intOf];omega
end
section
open Go.RowKit
variable [Base]
def QDw (l:List Str)(w:World)(e:Ending)(w':World):Prop:=∃v,e=.returned v∧Qea w' v l∧Below w.heap.size w w'
theorem Qtw (l:List Str)(v:Value)(x:Str)(w:World)(h:Qea w v l):
  Calls Tryz.prog 121 #[v,sv x] w (IntQ (idxI l x) w):=by
 obtain⟨a,c,rfl,hn,hc⟩:=h.cell;have HC:=Zh hc;obtain⟨n,hl⟩:=Ze l.length;rw[hl] at hn ⊢;have HL:=Zh hl;clear hc h hl;unfold maxLen at hn;go_enter Tryz.func121,Tryz.ntmps121;go_wp2;go_loopw [5] (fun y wr=>∃k:Nat,k≤n∧y=.int .i64 k∧w=wr∧Hid (x∉l.take k)) (fun y _=>n-(intOf y).toNat)
 case atStart=>exact⟨0,Nat.zero_le _,rfl,rfl,by unfold Hid;simp⟩
 case round=>
  obtain⟨k,hk,rfl,rfl,HNI⟩:=hrel;by_cases hlt:k<n
  ·obtain⟨y,hy⟩:∃y,l[k]? = some y:=⟨_,List.getElem?_eq_getElem (by rw[HL.o];exact hlt)⟩;obtain⟨b1,o1,rfl,hb1,g1⟩:=HC.o k y hy;by_cases hxy:y=x
   ·subst hxy;have HK:=Zh (show idxI l y=(k:Int) from Qse hy HNI.o);clear hy;go_wp2;go_ret;exact⟨Qob HK.o.symm,Below.refl _ _⟩
   ·have HN1:=Zh (show x∉l.take (k+1) by
     rw[List.take_add_one,hy];intro h;rcases List.mem_append.1 h with h|h
     ·exact HNI.o h
     ·simp at h;exact hxy h.symm)
    have he1:(y==x)=false:=by simpa using hxy
    clear hy hxy;go_wp2;go_roundw
    case rel=>exact⟨k+1,by omega,by go_num,(by first|rfl|trivial),HN1⟩
    case measure=>simp[intOf];omega
  ·have HK:=Zh (show idxI l x = -1 by
    unfold idxI;rw[if_neg (fun h=>HNI.o (by rwa [List.take_of_length_le (by rw[HL.o];omega)]))])
   go_wp2;go_ret;exact⟨Qob HK.o.symm,Below.refl _ _⟩
theorem QVw {w:World}(p:List Qo)(v:Value)(h:QAa w v p)(hbs:Base.b≤w.heap.size)(hs:p.length≤100000):
  Calls Tryz.prog 128 #[.agg #[v]] w (QDw (QRc p) w):=by
 obtain⟨a,c,rfl,hn,hc⟩:=h.cell;have HC:=Zh hc;obtain⟨n,hl⟩:=Ze p.length;rw[hl] at hn hs ⊢;have HL:=Zh hl;unfold maxLen at hn;obtain⟨z,hz⟩:=Ze w.heap.size;obtain⟨W,hW⟩:=Ze (w.alloc (.cells #[.slice a n c] 25));have HPB:=Zh (show W.heap[z]? = some (.cells #[.slice a n c] 25 (0,0)) by rw[←hW,←hz];exact heap_alloc_new _ _);have BW:=Zh (show Below z w W by rw[←hW,←hz];exact Zb);have HWW:=Zh hW;have HZ:=Zh hz;have hzW:z+1=W.heap.size:=by rw[←hW,←hz];simp
 rw[hz] at hbs;clear h hc hl hW;go_enter Tryz.func128,Tryz.ntmps128;go_upto_region 1 with(fail)
 rw[show w.alloc (.cells #[.slice a n c] 25)=W from HWW.o]
 try rw[hz]
 go_wp2;go_loopw [3,4] (fun V y wr=>∃(i:Nat) (Y:Value),i≤n∧Y=V∧y=.int .i64 i∧Hid (Below (z+1) W wr)∧Hid (wr.ownsRow (z+1) 9 1 Y i (((QRc p).take i).map sv))) (fun _ y _=>n-(intOf y).toNat)
 case atStart=>exact⟨0,_,Nat.zero_le _,rfl,rfl,Below.refl _ _,by unfold Hid;exact World.ownsRow_nil _ _ _ _⟩
 case round=>
  obtain⟨i,V,hi,rfl,rfl,HB,HO⟩:=hrel;have x0:=(Qd (Qc HPB.o HB.o ZO)).1 0;simp at x0;by_cases hlt:i<n
  ·obtain⟨f,hf⟩:∃f,p[i]? = some f:=⟨_,List.getElem?_eq_getElem (by rw[HL.o];exact hlt)⟩;obtain⟨fb,fo,bv,rfl,hfb,g0,-,-⟩:=HC.o i f hf;have g0:=(HB.o.cell (p:=⟨fb,fo+i*2,none⟩) (by show fb<z+1;omega)).trans ((BW.o.cell (p:=⟨fb,fo+i*2,none⟩) (by show fb<z;omega)).trans g0);have HT:=Zh (show((QRc p).take (i+1)).map sv=((QRc p).take i).map sv++[sv f.name] by
    have h1:(QRc p)[i]? = some f.name:=by show(p.map _)[i]? = _;rw[List.getElem?_map,hf];rfl
    rw[List.take_add_one,h1];simp)
   have hzr:z+1≤wr.heap.size:=by have:=HB.o.size;omega
   clear hf;go_wp2_with (at_builtin;refine QL [sv f.name] rfl _ _ _ rfl (z+1) 9 _ 1 16 Tryz.underlying86 Qph rfl ZO _ _ _ HO.o rfl rfl rfl rfl (by unfold maxLen;omega) ZO hzr ?_;intro g cap w5 ho hg _ _;have HB5:=Zh (HB.o.trans (Below.of_grown hg HO.o hzr));rw[←HT.o] at ho;have HO5:=Zh ho;clear ho hg);go_roundw
   case rel=>exact⟨i+1,_,by omega,rfl,by go_num,HB5.o,HO5.o⟩
   case measure=>simp[intOf];omega
  ·obtain rfl:i=n:=by omega
   have HF:=Zh (show((QRc p).take i)=QRc p from List.take_of_length_le (by show(p.map _).length≤_;rw[List.length_map,HL.o];omega));go_wp2;refine bodyPost_ret (v:=V) (by simp[results,Tryz.results128,go_sem]) rfl ⟨_,rfl,?_,?_⟩
   ·have h1:=HO.o;rw[HF.o] at h1;exact Qg.of_owns h1
   ·rw[HZ.o];exact BW.o.trans (HB.o.mono (Nat.le_succ z))
theorem QGw {w:World}(f0:Qo)(v:Value)(h:QOc w v f0.blocks)(hbs:Base.b≤w.heap.size)(hs:f0.blocks.length≤100000):
  Calls Tryz.prog 129 #[.agg #[sv f0.name,v]] w (QDw (QPb f0) w):=by
 obtain⟨a,c,rfl,hn,hc⟩:=h.cell;have HC:=Zh hc;obtain⟨n,hl⟩:=Ze f0.blocks.length;rw[hl] at hn hs ⊢;have HL:=Zh hl;unfold maxLen at hn;obtain⟨z,hz⟩:=Ze w.heap.size;obtain⟨W,hW⟩:=Ze (w.alloc (.cells #[sv f0.name,.slice a n c] 89));have HPB:=Zh (show W.heap[z]? = some (.cells #[sv f0.name,.slice a n c] 89 (0,0)) by rw[←hW,←hz];exact heap_alloc_new _ _);have BW:=Zh (show Below z w W by rw[←hW,←hz];exact Zb);have HWW:=Zh hW;have HZ:=Zh hz;have hzW:z+1=W.heap.size:=by rw[←hW,←hz];simp
 rw[hz] at hbs;clear h hc hl hW;go_enter Tryz.func129,Tryz.ntmps129;go_upto_region 1 with(fail)
 rw[show w.alloc (.cells #[sv f0.name,.slice a n c] 89)=W from HWW.o]
 try rw[hz]
 go_wp2;go_loopw [3,4] (fun V y wr=>∃(i:Nat) (Y:Value),i≤n∧Y=V∧y=.int .i64 i∧Hid (Below (z+1) W wr)∧Hid (wr.ownsRow (z+1) 9 1 Y i (((QPb f0).take i).map sv))) (fun _ y _=>n-(intOf y).toNat)
 case atStart=>exact⟨0,_,Nat.zero_le _,rfl,rfl,Below.refl _ _,by unfold Hid;exact World.ownsRow_nil _ _ _ _⟩
 case round=>
  obtain⟨i,V,hi,rfl,rfl,HB,HO⟩:=hrel;have x0:=(Qd (Qc HPB.o HB.o ZO)).1 1;simp at x0;by_cases hlt:i<n
  ·obtain⟨f,hf⟩:∃f,f0.blocks[i]? = some f:=⟨_,List.getElem?_eq_getElem (by rw[HL.o];exact hlt)⟩;obtain⟨fb,fo,bv,rfl,hfb,g0,-,-⟩:=HC.o i f hf;have g0:=(HB.o.cell (p:=⟨fb,fo+i*2,none⟩) (by show fb<z+1;omega)).trans ((BW.o.cell (p:=⟨fb,fo+i*2,none⟩) (by show fb<z;omega)).trans g0);have HT:=Zh (show((QPb f0).take (i+1)).map sv=((QPb f0).take i).map sv++[sv f.name] by
    have h1:(QPb f0)[i]? = some f.name:=by show(f0.blocks.map _)[i]? = _;rw[List.getElem?_map,hf];rfl
    rw[List.take_add_one,h1];simp)
   have hzr:z+1≤wr.heap.size:=by have:=HB.o.size;omega
   clear hf;go_wp2_with (at_builtin;refine QL [sv f.name] rfl _ _ _ rfl (z+1) 9 _ 1 16 Tryz.underlying86 Qph rfl ZO _ _ _ HO.o rfl rfl rfl rfl (by unfold maxLen;omega) ZO hzr ?_;intro g cap w5 ho hg _ _;have HB5:=Zh (HB.o.trans (Below.of_grown hg HO.o hzr));rw[←HT.o] at ho;have HO5:=Zh ho;clear ho hg);go_roundw
   case rel=>exact⟨i+1,_,by omega,rfl,by go_num,HB5.o,HO5.o⟩
   case measure=>simp[intOf];omega
  ·obtain rfl:i=n:=by omega
   have HF:=Zh (show((QPb f0).take i)=QPb f0 from List.take_of_length_le (by show(f0.blocks.map _).length≤_;rw[List.length_map,HL.o];omega));go_wp2;refine bodyPost_ret (v:=V) (by simp[results,Tryz.results129,go_sem]) rfl ⟨_,rfl,?_,?_⟩
   ·have h1:=HO.o;rw[HF.o] at h1;exact Qg.of_owns h1
   ·rw[HZ.o];exact BW.o.trans (HB.o.mono (Nat.le_succ z))
theorem QYx {w:World}{T:TypeId}{sz n c:Nat}{a:Option Addr}{xs:List Value}(h:Qg w T sz (.slice a n c) xs):n≤c∧c≤maxLen:=by
 obtain⟨n',cap,h1,h2,h3,h4⟩:=h;rcases h4 with⟨⟨a',e⟩,h0⟩|⟨b,off,cs,fr,e,-⟩
 ·injection e with _ e1 e2
  subst e1 e2;exact⟨Nat.le_refl _,Nat.zero_le _⟩
 ·injection e with _ e1 e2
  subst e1 e2;exact⟨h2,h3⟩
theorem Qey {l:List Str}(h:l.Nodup){i:Nat}{x:Str}(hx:l[i]? = some x):idxI (l.take i) x = -1:=by
 unfold idxI;rw[if_neg];intro hm;obtain⟨j,hj⟩:=List.mem_iff_getElem?.1 hm;have hji:j<i:=by have:=(List.getElem?_eq_some_iff.1 hj).1;rw[List.length_take] at this;omega
 rw[List.getElem?_take_of_lt hji] at hj;have hl:=(List.getElem?_eq_some_iff.1 hx).1;have:=(List.getElem?_inj ZO h).1 (hj.trans hx.symm);omega
theorem Qny (l:List Str)(v:Value)(w:World)(h:Qea w v l)(hd:l.Nodup):Calls Tryz.prog 127 #[v] w (IntQ (-1) w):=by
 have HH:=Zh h;have HD:=Zh hd;obtain⟨a,c,rfl,hn,hc⟩:=h.cell;have HC:=Zh hc;obtain⟨n,hl⟩:=Ze l.length;rw[hl] at hn HH ⊢;have HL:=Zh hl;obtain⟨hnc,hcm⟩:=QYx HH.o;clear hc h hl hd;unfold maxLen at hn;go_enter Tryz.func127,Tryz.ntmps127;go_wp2;go_loopw [3] (fun y wr=>∃k:Nat,k≤n∧y=.int .i64 k∧Hid (Below w.heap.size w wr)) (fun y _=>n-(intOf y).toNat)
 case atStart=>exact⟨0,Nat.zero_le _,rfl,Below.refl _ _⟩
 case round=>
  obtain⟨k,hk,rfl,HB⟩:=hrel;by_cases hlt:k<n
  ·obtain⟨y,hy⟩:∃y,l[k]? = some y:=⟨_,List.getElem?_eq_getElem (by rw[HL.o];exact hlt)⟩;obtain⟨b1,o1,rfl,hb1,g1⟩:=HC.o k y hy;have G1:=Zh g1;have g1:=(HB.o.cell (p:=⟨b1,o1+k,none⟩) hb1).trans g1;have KP:=Zh (show ∀x,Below wr.heap.size wr x→Calls Tryz.prog 121 #[.slice (some ⟨b1,o1,none⟩) k c,sv y] x (IntQ (-1) x) from fun x b=>by
    have h1:=Qg.same (Qg.front HH.o k hk) (Qf.below (HB.o.trans (b.mono HB.o.size)));rw[Nat.mul_one,←List.map_take] at h1;have h2:=Qtw (l.take k) _ y x h1;rw[Qey HD.o hy] at h2;exact h2)
   have hkc:k≤c:=by omega
   clear hy;go_upto_region 4 with(fail)
   go_region_held3 (fun w'=>w'.cell? ⟨b1,o1+k,none⟩=some (sv y)) (first|exact(HB2.o.cell (p:=⟨b1,o1+k,none⟩) hb1).trans G1.o|go_keep) ((go_at_call 121;refine(KP.o _ (Qp (Below.refl _ _) _)).mono ?_;rintro e w2 ⟨rfl,b2⟩;have HB2:=Zh (HB.o.trans (((Qp (Below.refl wr.heap.size wr) 1).trans b2).mono HB.o.size));clear b2));go_wp2;go_roundw
   case rel=>exact⟨k+1,by omega,by go_num,HB2.o⟩
   case measure=>simp[intOf];omega
  ·go_wp2;go_ret;exact⟨rfl,HB.o⟩
theorem Qay (op:Int)(w:World):Calls Tryz.prog 177 #[.int .i64 op] w (Qia (QTg op) w):=by
 by_cases h7:op=7
 ·subst h7;go_enter Tryz.func177,Tryz.ntmps177;go_wp2;go_ret;exact⟨rfl,Below.refl _ _⟩
 have t7:(op==7)=false:=by simpa using h7
 by_cases h8:op=8
 ·subst h8;go_enter Tryz.func177,Tryz.ntmps177;go_wp2;go_ret;exact⟨rfl,Below.refl _ _⟩
 have t8:(op==8)=false:=by simpa using h8
 have HT:=Zh (show QTg op=(op==9) by unfold QTg;rw[t7,t8];rfl);go_enter Tryz.func177,Tryz.ntmps177;go_wp2;go_ret;exact⟨by rw[HT.o];rfl,Below.refl _ _⟩
end
section
open Go.RowKit
variable [Base]
theorem QJx {fs bs:List Str}{s:QD}{last:Bool}(h:QXi fs bs s last=0):QTg s.op=last∧∀t∈s.targets,t∈(if s.op=3 then fs else bs):=by
 unfold QXi at h;by_cases h1:(QTg s.op != last)=true
 ·rw[if_pos h1] at h;exact absurd h ZD
 ·rw[if_neg h1] at h;refine⟨by simpa using h1,fun t ht=>?_⟩;by_cases h2:s.targets.all (fun t=>(if s.op==3 then fs else bs).contains t)=true
  ·have h3:=List.all_eq_true.1 h2 t ht
   simpa using h3
  ·rw[if_neg h2] at h;exact absurd h ZD
theorem Qyy {w:World}{o1 o2 o3:Obj}:(((w.alloc o1).alloc o2).alloc o3).heap[w.heap.size]? = some o1∧(((w.alloc o1).alloc o2).alloc o3).heap[w.heap.size+1]? = some o2∧(((w.alloc o1).alloc o2).alloc o3).heap[w.heap.size+2]? = some o3:=by
 have h:=heap_alloc_new ((w.alloc o1).alloc o2) o3;rw[World.size_alloc,World.size_alloc] at h;exact⟨Qz _ (Qz _ (heap_alloc_new _ _)),Qz _ (Qda _ _),h⟩
theorem QZw {l:List Str}{x:Str}(h:x∈l):∃k:Nat,idxI l x=(k:Int):=⟨_,if_pos h⟩
theorem Qvx {w:World}(p:List Qo)(v:Value)(h:QAa w v p)(f:Qo)(bv:Value)(hb:QOc w bv f.blocks)(s:QD)(u t:Value)(hu:Qea w u s.uses)(ht:Qea w t s.targets)(last:Bool)(hbs:Base.b≤w.heap.size)(hp:p.length≤100000)(hf:f.blocks.length≤100000)(he:QXi (QRc p) (QPb f) s last=0):
  Calls Tryz.prog 130 #[.agg #[v],.agg #[sv f.name,bv],.agg #[iv s.op,sv s.dfn,u,t],.bool last] w (IntQ 0 w):=by
 obtain⟨hlast,htg⟩:=QJx he;obtain⟨z,hz⟩:=Ze w.heap.size;have KF:=Zh (show ∀x,Below z w x→Calls Tryz.prog 128 #[.agg #[v]] x (QDw (QRc p) x) from fun x b=>QVw p v (h.keep (Qf.below (hz▸b)) (Qf.below (hz▸b)) (Qf.below (hz▸b)) (Qf.below (hz▸b))) (by have:=b.size;omega) hp);have KB:=Zh (show ∀x,Below z w x→Calls Tryz.prog 129 #[.agg #[sv f.name,bv]] x (QDw (QPb f) x) from fun x b=>QGw f bv (hb.keep (Qf.below (hz▸b)) (Qf.below (hz▸b)) (Qf.below (hz▸b))) (by have:=b.size;omega) hf);obtain⟨va,vc,rfl,-⟩:=h.cell;obtain⟨ba,bc,rfl,-⟩:=hb.cell;obtain⟨ua,uc,rfl,-⟩:=hu.cell;obtain⟨ta,tc,rfl,htn,htc⟩:=ht.cell;obtain⟨pn,hpn⟩:=Ze p.length;obtain⟨bn,hbn⟩:=Ze f.blocks.length;obtain⟨un,hun⟩:=Ze s.uses.length;obtain⟨n,hln⟩:=Ze s.targets.length;obtain⟨op,hop⟩:=Ze s.op;rw[hpn] at KF ⊢;rw[hbn] at KB ⊢;rw[hun,hln,hop];rw[hln] at htn;rw[hop] at hlast htg;have HTC:=Zh htc;have HTG:=Zh htg;have HLN:=Zh hln;unfold maxLen at htn;obtain⟨W,hW⟩:=Ze (((w.alloc (.cells #[.slice va pn vc] 25)).alloc (.cells #[sv f.name,.slice ba bn bc] 89)).alloc (.cells #[iv op,sv s.dfn,.slice ua un uc,.slice ta n tc] 94));have BW:=Zh (show Below z w W by rw[←hW,←hz];exact((Zb).alloc ZS _).alloc (by simp;omega) _);have L3:=Qyy (w:=w) (o1:=.cells #[.slice va pn vc] 25) (o2:=.cells #[sv f.name,.slice ba bn bc] 89) (o3:=.cells #[iv op,sv s.dfn,.slice ua un uc,.slice ta n tc] 94);rw[hW,hz] at L3;have HP:=Zh L3.1;have HF:=Zh L3.2.1;have HS:=Zh L3.2.2;have HW:=Zh hW;have HZ:=Zh hz;have hzW:z+3≤W.heap.size:=by have:=Qb HS.o;omega
 clear L3 hW h hb hu ht htc htg he hln hun hbn hpn hp hf;obtain⟨p1,hp1⟩:=Ze (z+1);obtain⟨p2,hp2⟩:=Ze (z+2);have HP1:=Zh hp1;have HP2:=Zh hp2;rw[hp1] at HF;rw[hp2] at HS;have hzl:z<W.heap.size∧p1<W.heap.size∧p2<W.heap.size:=⟨Qb HP.o,Qb HF.o,Qb HS.o⟩;clear hop;go_enter Tryz.func130,Tryz.ntmps130;go_upto_region 1 with(fail)
 rw[show((w.alloc (.cells #[.slice va pn vc] 25)).alloc (.cells #[sv f.name,.slice ba bn bc] 89)).alloc (.cells #[iv op,sv s.dfn,.slice ua un uc,.slice ta n tc] 94)=W from HW.o]
 try rw[hz]
 try rw[hp1]
 try rw[show p1+1=p2 by rw[←hp1];exact HP2.o]
 clear hz hp1 hp2;obtain⟨s0,s1,s2,s3⟩:=Qt HS.o;go_wp2_with fail;refine(Qay op W).mono ?_;rintro e w1 ⟨rfl,b1⟩;have B1:=Zh (show Below W.heap.size W w1 from b1);rw[hlast];have hne:(last==last)=true:=by cases last <;> rfl
 have hne2:(last != last)=false:=by cases last <;> rfl
 clear b1 s0 s1 s2 s3;obtain⟨f0,f1⟩:=Qq (Qc HF.o B1.o hzl.2.1);go_wp2_with fail;refine(KB.o w1 (BW.o.trans (B1.o.mono ZO))).mono ?_;rintro e w2 ⟨nv,rfl,hnv,b2⟩;have B2:=Zh (show Below W.heap.size W w2 from B1.o.trans (b2.mono B1.o.size));have HNV:=Zh hnv;clear b2 hnv f0 f1;obtain⟨s0,s1,s2,s3⟩:=Qt (Qc HS.o B2.o hzl.2.2);have x0:=(Qd (Qc HP.o B2.o hzl.1)).1 0;simp at x0;by_cases h3:op=3
 ·rw[if_pos h3] at HTG;subst h3;go_wp2_with fail;refine(KF.o w2 (BW.o.trans (B2.o.mono ZO))).mono ?_;rintro e w3 ⟨nw,rfl,hnw,b3⟩;have B3:=Zh (show Below W.heap.size W w3 from B2.o.trans (b3.mono B2.o.size));have HNW:=Zh hnw;clear b3 hnw s0 s1 s2 s3 x0;obtain⟨s0,s1,s2,s3⟩:=Qt (Qc HS.o B3.o hzl.2.2);go_wp2;clear s0 s1 s2 s3;go_loopw [10] (fun y wr=>∃k:Nat,k≤n∧y=.int .i64 k∧Hid (Below W.heap.size W wr)∧Hid (Qea wr nw (QRc p))) (fun y _=>n-(intOf y).toNat)
  case atStart=>exact⟨0,Nat.zero_le _,rfl,B3.o,HNW.o⟩
  case round=>
   obtain⟨k,hk,rfl,HB,HN⟩:=hrel;obtain⟨s0,s1,s2,s3⟩:=Qt (Qc HS.o HB.o hzl.2.2);by_cases hlt:k<n
   ·obtain⟨y,hy⟩:∃y,s.targets[k]? = some y:=⟨_,List.getElem?_eq_getElem (by rw[HLN.o];exact hlt)⟩;obtain⟨b1,o1,rfl,hb1,g1⟩:=HTC.o k y hy;have g1:=((BW.o.trans (HB.o.mono ZO)).cell (p:=⟨b1,o1+k,none⟩) (by have:=HZ.o;show b1<z;omega)).trans g1;have hyt:=HTG.o y (List.mem_of_getElem? hy);have KP:=Zh (Qtw _ _ y wr HN.o);obtain⟨ix,hix⟩:=QZw hyt;rw[hix] at KP;have ti:((ix:Int)<0)=False:=by simp
    clear hy hyt hix;go_wp2_with fail;refine KP.o.mono ?_;rintro e w4 ⟨rfl,b4⟩;have B4:=Zh (HB.o.trans (b4.mono HB.o.size));have HN4:=Zh (Qg.same (w':=w4) HN.o (Qf.below b4));clear b4 s0 s1 s2 s3;go_wp2;go_roundw
    case rel=>exact⟨k+1,by omega,by go_num,B4.o,HN4.o⟩
    case measure=>simp[intOf];omega
   ·go_wp2;go_ret;exact⟨rfl,by rw[HZ.o];exact BW.o.trans (HB.o.mono ZO)⟩
 ·rw[if_neg h3] at HTG;have t3:(op==3)=false:=by simpa using h3
  obtain⟨w3,hw3⟩:∃x:World,w2=x:=⟨_,rfl⟩;obtain⟨nw,hnw⟩:∃x:Value,nv=x:=⟨_,rfl⟩;subst hw3 hnw;clear h3;go_wp2;clear s0 s1 s2 s3 x0;go_loopw [10] (fun y wr=>∃k:Nat,k≤n∧y=.int .i64 k∧Hid (Below W.heap.size W wr)∧Hid (Qea wr nv (QPb f))) (fun y _=>n-(intOf y).toNat)
  case atStart=>exact⟨0,Nat.zero_le _,rfl,B2.o,HNV.o⟩
  case round=>
   obtain⟨k,hk,rfl,HB,HN⟩:=hrel;obtain⟨s0,s1,s2,s3⟩:=Qt (Qc HS.o HB.o hzl.2.2);by_cases hlt:k<n
   ·obtain⟨y,hy⟩:∃y,s.targets[k]? = some y:=⟨_,List.getElem?_eq_getElem (by rw[HLN.o];exact hlt)⟩;obtain⟨b1,o1,rfl,hb1,g1⟩:=HTC.o k y hy;have g1:=((BW.o.trans (HB.o.mono ZO)).cell (p:=⟨b1,o1+k,none⟩) (by have:=HZ.o;show b1<z;omega)).trans g1;have hyt:=HTG.o y (List.mem_of_getElem? hy);have KP:=Zh (Qtw _ _ y wr HN.o);obtain⟨ix,hix⟩:=QZw hyt;rw[hix] at KP;have ti:((ix:Int)<0)=False:=by simp
    clear hy hyt hix;go_wp2_with fail;refine KP.o.mono ?_;rintro e w4 ⟨rfl,b4⟩;have B4:=Zh (HB.o.trans (b4.mono HB.o.size));have HN4:=Zh (Qg.same (w':=w4) HN.o (Qf.below b4));clear b4 s0 s1 s2 s3;go_wp2;go_roundw
    case rel=>exact⟨k+1,by omega,by go_num,B4.o,HN4.o⟩
    case measure=>simp[intOf];omega
   ·go_wp2;go_ret;exact⟨rfl,by rw[HZ.o];exact BW.o.trans (HB.o.mono ZO)⟩
end
section
open Go.RowKit
variable [Base]
theorem QAa.below {w w':World}{v:Value}{p:List Qo}(h:QAa w v p)(b:Below w.heap.size w w'):QAa w' v p:=h.keep (Qf.below b) (Qf.below b) (Qf.below b) (Qf.below b)
theorem QKx {w:World}(p:List Qo)(v:Value)(h:QAa w v p)(hv:QMa p=true)(hbs:Base.b≤w.heap.size):
  Calls Tryz.prog 131 #[.agg #[v]] w (fun e w'=>e=.returned (.tuple #[iv (QMd p),iv (QNd p)])∧Below w.heap.size w w'):=by
 obtain⟨z,hz⟩:=Ze w.heap.size;have KV:=Zh (show ∀x,Below z w x→Calls Tryz.prog 126 #[.agg #[v]] x (QTj (QMa p) x) from fun x b=>QTw p v x (h.below (hz▸b)));rw[hv] at KV;have HFEW:=Zh (QUc hv);have HPF:=Zh (fun i=>QVi hv i);have HNN:=Zh (show QMd p=2*(p.length:Int)+QDb (QH p) by unfold QMd QDb;rw[hv];rfl);have HEE:=Zh (show QNd p=(p.length:Int)+QEb (QH p) by unfold QNd QEb;rw[hv];rfl);obtain⟨a,c,rfl,hn,hc⟩:=h.cell;have HC:=Zh hc;obtain⟨n,hl⟩:=Ze p.length;have hn8:n≤8:=by have:=HFEW.o.1;omega
 rw[hl] at hn KV HNN HEE ⊢;have HL:=Zh hl;unfold maxLen at hn;obtain⟨W,hW⟩:=Ze (w.alloc (.cells #[.slice a n c] 25));have HPB:=Zh (show W.heap[z]? = some (.cells #[.slice a n c] 25 (0,0)) by rw[←hW,←hz];exact heap_alloc_new _ _);have BW:=Zh (show Below z w W by rw[←hW,←hz];exact Zb);have HWW:=Zh hW;have HZ:=Zh hz;have hzW:z+1=W.heap.size:=by rw[←hW,←hz];simp
 rw[hz] at hbs;clear h hc hl hW hv;have x0:=(Qd HPB.o).1 0;simp at x0;go_enter Tryz.func131,Tryz.ntmps131;go_upto_region 1 with(fail)
 rw[show w.alloc (.cells #[.slice a n c] 25)=W from HWW.o]
 try rw[hz]
 go_wp2_with fail;refine(KV.o W BW.o).mono ?_;rintro e w1 ⟨rfl,b1⟩;have B1:=Zh (show Below W.heap.size W w1 from b1);clear b1 x0;have x0:=(Qd (Qc HPB.o B1.o ZO)).1 0;simp at x0;go_wp2;go_loopw [4,5,6] (fun s4 s5 s6 wr=>∃(i:Nat) (X Y:Int),i≤n∧s4=.int .i64 X∧s5=.int .i64 Y∧s6=.int .i64 i∧Hid (X=2*(i:Int)+QDb (QH (p.take i))∧Y=(i:Int)+QEb (QH (p.take i)))∧w1=wr) (fun _ _ y _=>n-(intOf y).toNat)
 case atStart=>exact⟨0,0,0,Nat.zero_le _,rfl,rfl,rfl,by unfold Hid;simp[QH,QDb,QEb,sumI],rfl⟩
 case round=>
  obtain⟨i,X,Y,hi,rfl,rfl,rfl,HX,rfl⟩:=hrel;by_cases hlt:i<n;rotate_left
  ·obtain rfl:i=n:=by omega
   have HF:=Zh (show X=QMd p∧Y=QNd p by rw[HNN.o,HEE.o];have h:=HX.o;rw[List.take_of_length_le (by rw[HL.o];omega)] at h;exact h);go_wp2;exact bodyPost_ret (v:=.tuple #[iv X,iv Y]) (by simp[results,Tryz.results131,go_sem]) rfl ⟨by rw[HF.o.1,HF.o.2],by rw[HZ.o];exact BW.o.trans (B1.o.mono ZO)⟩
  ·obtain⟨f,hf⟩:∃f,p[i]? = some f:=⟨_,List.getElem?_eq_getElem (by rw[HL.o];exact hlt)⟩;obtain⟨fb,fo,bv,rfl,hfb,-,g1,hbl⟩:=HC.o i f hf;obtain⟨ba,bc,rfl,hbn,hbc⟩:=hbl.cell;have HBC:=Zh hbc;obtain⟨bn,hbn2⟩:=Ze f.blocks.length;rw[hbn2] at g1 hbn;unfold maxLen at hbn;have HBN:=Zh hbn2;have G1:=Zh ((B1.o.cell (p:=⟨fb,fo+i*2+1,none⟩) (by show fb<W.heap.size;omega)).trans ((BW.o.cell (p:=⟨fb,fo+i*2+1,none⟩) (by show fb<z;omega)).trans g1));have HST:=Zh (Qni hf);have HF:=Zh hf;obtain⟨D,hD⟩:=Ze (QH (p.take i));have HPI:=HPF.o i;have hsm:=Qot (QH (p.take i));rw[hD] at HX HST HPI hsm;have HD:=Zh hD;have hXb:0≤X∧X≤10000∧0≤Y∧Y≤13000:=by have:=HX.o;omega
   have w1a:IntKind.i64.wrap (X+2)=X+2:=IntWalk.i64_in _ ZO;have w1b:IntKind.i64.wrap (Y+1)=Y+1:=IntWalk.i64_in _ ZO;clear hf hbl hbn2 hbc g1 hD;have g1:=G1.o;go_wp2;clear w1a w1b;go_loopw [4,5,7] (fun s4 s5 s7 wr=>∃(k:Nat) (X Y:Int),k≤bn∧s4=.int .i64 X∧s5=.int .i64 Y∧s7=.int .i64 k∧Hid (X=2*(i:Int)+2+QDb (D++Qga (f.blocks.take k))∧Y=(i:Int)+1+QEb (D++Qga (f.blocks.take k)))∧w1=wr) (fun _ _ y _=>bn-(intOf y).toNat)
   case atStart=>exact⟨0,X+2,Y+1,Nat.zero_le _,rfl,rfl,rfl,by unfold Hid;have:=HX.o;rw[show D++Qga (f.blocks.take 0)=D by simp[Qga]];omega,rfl⟩
   case round=>
    clear hXb HX hsm;obtain⟨k,X,Y,hk,rfl,rfl,rfl,HX,rfl⟩:=hrel;by_cases hlt2:k<bn;rotate_left
    ·obtain rfl:k=bn:=by omega
     have HF2:=Zh (show X=2*((i+1:Nat):Int)+QDb (QH (p.take (i+1)))∧Y=((i+1:Nat):Int)+QEb (QH (p.take (i+1))) by
      rw[HST.o];have h:=HX.o;rw[List.take_of_length_le (by rw[HBN.o];omega),show Qga f.blocks=Qzf f from rfl] at h;omega)
     go_wp2;go_roundw
     case rel=>exact⟨i+1,X,Y,by omega,rfl,rfl,by go_num,HF2,(by first|rfl|trivial)⟩
     case measure=>simp[intOf];omega
    ·obtain⟨b,hb⟩:∃b,f.blocks[k]? = some b:=⟨_,List.getElem?_eq_getElem (by rw[HBN.o];exact hlt2)⟩;obtain⟨kb,ko,sv1,rfl,hkb,-,q1,hsl⟩:=HBC.o k b hb;obtain⟨sa,sc,rfl,hsn,hsc⟩:=hsl.cell;have HSC:=Zh hsc;obtain⟨sn,hsn2⟩:=Ze b.stmts.length;rw[hsn2] at q1 hsn;unfold maxLen at hsn;have HSN:=Zh hsn2;have Q1:=Zh ((B1.o.cell (p:=⟨kb,ko+k*2+1,none⟩) (by show kb<W.heap.size;omega)).trans ((BW.o.cell (p:=⟨kb,ko+k*2+1,none⟩) (by show kb<z;omega)).trans q1));have HBT:=Zh (QWg hb);have hfm:=List.mem_of_getElem? HF.o;have hfew:=HFEW.o.2 f hfm;have hfb2:=hfew.1;have hbl2:=QRm ((f.blocks.take k).map QI.stmts) 32 (by intro x hx;obtain⟨y,hy,rfl⟩:=List.mem_map.1 hx;exact hfew.2 y (List.mem_of_mem_take hy));have hsn3:sn≤32:=by rw[←hsn2];exact hfew.2 b (List.mem_of_getElem? hb)
     rw[show((f.blocks.take k).map QI.stmts).flatten=Qga (f.blocks.take k) from rfl,List.length_map,List.length_take] at hbl2;have hEl:(D++Qga (f.blocks.take k)).length≤5000:=by rw[List.length_append];omega
     obtain⟨E,hE⟩:=Ze (D++Qga (f.blocks.take k));rw[hE] at HX hEl;have HBE:=Zh (show D++Qga (f.blocks.take (k+1))=E++b.stmts by rw[HBT.o,←hE,List.append_assoc]);clear hb hsl hsn2 hsc q1 hE hfm hfew hfb2 hbl2;have q1:=Q1.o;go_wp2;go_loopw [4,5,9] (fun s4 s5 s9 wr=>∃(j:Nat) (X Y:Int),j≤sn∧s4=.int .i64 X∧s5=.int .i64 Y∧s9=.int .i64 j∧Hid (X=2*(i:Int)+2+QDb (E++b.stmts.take j)∧Y=(i:Int)+1+QEb (E++b.stmts.take j))∧w1=wr) (fun _ _ y _=>sn-(intOf y).toNat)
     case atStart=>exact⟨0,X,Y,Nat.zero_le _,rfl,rfl,rfl,by unfold Hid;have:=HX.o;rw[show E++b.stmts.take 0=E by simp];omega,rfl⟩
     case round=>
      clear HX;obtain⟨j,X,Y,hj,rfl,rfl,rfl,HX,rfl⟩:=hrel;by_cases hlt3:j<sn;rotate_left
      ·have HF3:=Zh (show X=2*(i:Int)+2+QDb (D++Qga (f.blocks.take (k+1)))∧Y=(i:Int)+1+QEb (D++Qga (f.blocks.take (k+1))) by
        rw[HBE.o];have h:=HX.o;rw[List.take_of_length_le (by rw[HSN.o];omega)] at h;exact h)
       go_wp2;go_roundw
       case rel=>exact⟨k+1,X,Y,by omega,rfl,rfl,by go_num,HF3,(by first|rfl|trivial)⟩
       case measure=>simp[intOf];omega
      ·obtain⟨s,hs⟩:∃s,b.stmts[j]? = some s:=⟨_,List.getElem?_eq_getElem (by rw[HSN.o];exact hlt3)⟩;obtain⟨b4,o4,u,t,rfl,hb4,c0,-⟩:=HSC.o j s hs;have c0:=(B1.o.cell (p:=⟨b4,o4+j*4,none⟩) (by show b4<W.heap.size;omega)).trans ((BW.o.cell (p:=⟨b4,o4+j*4,none⟩) (by show b4<z;omega)).trans c0);have h2:=Qsx hs;have h3:=Qot (E++b.stmts.take j);have h4:=Qtm E (b.stmts.take j);have h5:=Qtm E (b.stmts.take (j+1));rw[List.length_append,List.length_take] at h3;have hXb:0≤X∧X≤20000∧0≤Y∧Y≤20000:=by have:=HX.o;omega
       have HN:=Zh (show X+QHd s=2*(i:Int)+2+QDb (E++b.stmts.take (j+1))∧Y+Qod s=(i:Int)+1+QEb (E++b.stmts.take (j+1)) by have:=HX.o;omega);have w1a:IntKind.i64.wrap (X+1)=X+1:=IntWalk.i64_in _ ZO;have w1c:IntKind.i64.wrap (X+1+1)=X+1+1:=IntWalk.i64_in _ ZO;have w1b:IntKind.i64.wrap (Y+1)=Y+1:=IntWalk.i64_in _ ZO;have w2b:IntKind.i64.wrap (Y+2)=Y+2:=IntWalk.i64_in _ ZO;have w3b:IntKind.i64.wrap (Y+3)=Y+3:=IntWalk.i64_in _ ZO;obtain⟨op,hop⟩:=Ze s.op;rw[hop] at c0;unfold QHd Qod at HN;rw[hop] at HN;clear hs h2 h3 h4 h5 hXb HX hop;by_cases h3:op=3
       ·subst h3;have HN2:=Zh (show X+1+1=2*(i:Int)+2+QDb (E++b.stmts.take (j+1))∧Y+3=(i:Int)+1+QEb (E++b.stmts.take (j+1)) by have h:=HN.o;simp at h;omega);go_wp2;go_roundw
        case rel=>exact⟨j+1,X+1+1,Y+3,by omega,rfl,rfl,by go_num,HN2,(by first|rfl|trivial)⟩
        case measure=>simp[intOf];omega
       have t3:(op==3)=false:=by simpa using h3
       by_cases h8:op=8
       ·subst h8;have HN2:=Zh (show X+1=2*(i:Int)+2+QDb (E++b.stmts.take (j+1))∧Y+2=(i:Int)+1+QEb (E++b.stmts.take (j+1)) by have h:=HN.o;simp at h;omega);go_wp2;go_roundw
        case rel=>exact⟨j+1,X+1,Y+2,by omega,rfl,rfl,by go_num,HN2,(by first|rfl|trivial)⟩
        case measure=>simp[intOf];omega
       have t8:(op==8)=false:=by simpa using h8
       have HN2:=Zh (show X+1=2*(i:Int)+2+QDb (E++b.stmts.take (j+1))∧Y+1=(i:Int)+1+QEb (E++b.stmts.take (j+1)) by have h:=HN.o;rw[if_neg h3,if_neg h3,if_neg h8] at h;omega);clear h3 h8;go_wp2;go_roundw
       case rel=>exact⟨j+1,X+1,Y+1,by omega,rfl,rfl,by go_num,HN2,(by first|rfl|trivial)⟩
       case measure=>simp[intOf];omega
end
section
variable [Base]
open Go
section
variable {P:Program} {ops:Array Oper} {Q:Exit→Act→World→Prop} {md:Region.Mode} {S:World→Prop}
theorem Qhi {st:Nat}(i:Nat){oi:Oper}{fuel:Nat}{listed:Array Bool}{a:Act}{w:World}(hi:ops[i]? = some oi)(hr:Region.ready md ops listed=[i])(hwant:Region.wanted oi (yielded ops a.tmps)=true)(h:oi.wp P a w (fun a' w'=>(i≠st→S w')∧Qma P md ops Q S st fuel (listed.setIfInBounds i true) a' w') Q):Qma P md ops Q S st (fuel+1) listed a w:=by
 refine Qh hr ZS fun j hj=>?_
 obtain rfl:j=i:=by simpa using hj
 unfold wpOp;rw[hi];show if Region.wanted oi (yielded ops a.tmps) then _ else _
 rw[if_pos hwant];exact .inl h
theorem QRe {st:Nat}(i:Nat)(d:Option Tmp){oi:Oper}{fuel:Nat}{listed:Array Bool}{a:Act}{w:World}(hi:ops[i]? = some oi)(hr:Region.ready md ops listed=[i])(hwant:Region.wanted oi (yielded ops a.tmps)=true)(hd:oi.dst=d)(s x:Operand)(t:TypeId)(ho:oi.op=.call { callee:=.builtin .append,args:=#[s,x],argTypes:=#[t,t] })(base:Nat)(e:TypeId)(z:Value)(size bytes:Nat)(ht:P.underlying t=some (.slice e))(hin:(P.info? e).map (fun i=>(i.zero,i.size,i.bytes))=some (some z,size,bytes))(hzs:z.cells.size=size)(hsz:0<size)(v:Value)(n:Nat)(xs:List Value)(hown:w.ownsRow base e size v n xs)(hs:a.eval s=v)(u:Value)(m:Nat)(ys:List Value)(hx:a.eval x=u)(hsl:Qg w e size u ys)(hm:ys.length=m*size)(h1:ys.all Value.oneCell'=true)(h63:n+m≤maxLen)(hbytes:(n+m)*bytes≤140737488355328)(hbase:base≤w.heap.size)(h:∀g c w',w'.ownsRow base e size (.slice g (n+m) c) (n+m) (xs++ys)→w.grownBy w' v.ownBlock→(i≠st→S w')∧Qma P md ops Q S st fuel (listed.setIfInBounds i true) (a.put d (.slice g (n+m) c)) w'):
  Qma P md ops Q S st (fuel+1) listed a w:=by
 subst hd;exact Qhi i hi hr hwant (Qlf s x t ho base e z size bytes ht hin hzs hsz v n xs hown hs u m ys hx hsl hm h1 h63 hbytes hbase h)
end
end
end Go.Proofs.YtijekimobahgpaaGreatDoor
