/- A part of the proof. -/
import Derived.Test.YtijekimobahgpaaGreatDoorWb03
import Derived.IntWalk
import Derived.Shelf.Spec.TrailingZeros
import Derived.Lib.LaidTab
import Derived.Lib.TrailingZeros
import Derived.Laws.CopyOwn
import Derived.Laws.NewBlocks
set_option linter.unusedVariables false
set_option linter.unusedSimpArgs false
set_option linter.unusedSectionVars false
set_option maxRecDepth 100000
set_option maxHeartbeats 16000000
namespace Go.Proofs.YtijekimobahgpaaGreatDoor
section
open Go.RowKit
variable [Base]
def StmtQ (r:Option QD)(w:World)(e:Ending)(w':World):Prop:=
 ∃u t,e=.returned (.tuple #[.agg #[iv (r.getD Qie).op,sv (r.getD Qie).dfn,u,t],.bool r.isSome])∧Qea w' u (r.getD Qie).uses∧Qea w' t (r.getD Qie).targets∧Below w.heap.size w w'
theorem Qti {p:List Qo}{x:Qx}(hm:x∈QR p)(hi:insN x=true):∃(i k j:Nat) (f:Qo) (b:QI) (s:QD),x.fn=i∧x.bl=k∧x.st=j∧p[i]? = some f∧f.blocks[k]? = some b∧b.stmts[j]? = some s∧QFd p x=some s:=by
 unfold QR at hm
 split at hm
 ·obtain⟨i,f,hf,h⟩:=QLb.1 hm;rcases h with rfl|rfl|⟨k,b,j,s,hb,hs,h⟩
  ·simp[insN] at hi
  ·simp[insN] at hi
  ·have hx:∀q:Int,QFd p ⟨q,(i:Nat),(k:Nat),(j:Nat)⟩=some s:=fun q=>by
    unfold QFd;simp[hf,hb,hs]
   rcases h with rfl|⟨-,rfl⟩
   ·exact⟨i,k,j,f,b,s,rfl,rfl,rfl,hf,hb,hs,hx _⟩
   ·exact⟨i,k,j,f,b,s,rfl,rfl,rfl,hf,hb,hs,hx _⟩
 ·cases hm
theorem Qjk {B:Nat}{w:World}(kw:KwIn B w)(hB:B≤w.heap.size)(p:List Qo)(v:Value)(h:QAa w v p)(hf:∀f∈p,∀b∈f.blocks,∀s∈b.stmts,FitS s)(x:Qx):
  Calls Tryz.prog 47 #[.agg #[v],.agg #[iv x.kind,iv x.fn,iv x.bl,iv x.st]] w (StmtQ (QAf p x) w):=by
 obtain⟨z,hz⟩:=Ze w.heap.size;have HV:=Zh (fun (y:World) (b:Below z w y)=>QCs (kw.keep fun k hk=>b.block k ZO) (by have:=b.size;omega) p v (h.keep (Qf.below (hz▸b)) (Qf.below (hz▸b)) (Qf.below (hz▸b)) (Qf.below (hz▸b))) hf x);obtain⟨a,c,rfl,hn,hc⟩:=h.cell;have HC:=Zh hc;obtain⟨n,hl⟩:=Ze p.length;rw[hl] at hn HV ⊢;have hbz:Base.b≤z:=by have:=kw.bs;omega
 obtain⟨x1,x2,x3,x4⟩:=x;obtain⟨X,hX⟩:∃X:Qx,(⟨x1,x2,x3,x4⟩:Qx)=X:=⟨_,rfl⟩;have HS:=Zh (show QAf p X=if insN X=true∧X∈QR p then QFd p X else none from rfl);obtain⟨r,hr⟩:=Ze (QAf p X);simp only at HV ⊢;rw[hX] at HV ⊢;rw[hr] at HS ⊢;have hI:=Qxo x1 x2 x3 x4;rw[hX] at hI;have HI:=Zh hI;obtain⟨ib,hib⟩:=Ze (insN X);rw[hib] at HI HS;obtain⟨W,hW⟩:=Ze (((w.alloc (.cells #[.slice a n c] 25)).alloc (.cells #[iv x1,iv x2,iv x3,iv x4] 108)).alloc (.cells #[iv 0,.string ⟨#[]⟩,.slice none 0 0,.slice none 0 0] 94));have HPB:=Zh (show W.heap[z]? = some (.cells #[.slice a n c] 25 (0,0)) by rw[←hW,←hz];exact Qfa _ (Qfa _ (heap_alloc_new _ _)));have HNB:=Zh (show W.heap[z+1]? = some (.cells #[iv x1,iv x2,iv x3,iv x4] 108 (0,0)) by
  rw[←hW,←hz];have:=heap_alloc_new (w.alloc (.cells #[.slice a n c] 25)) (.cells #[iv x1,iv x2,iv x3,iv x4] 108);rw[World.size_alloc] at this;exact Qfa _ this)
 have HRB:=Zh (show W.heap[z+1+1]? = some (.cells #[iv 0,.string ⟨#[]⟩,.slice none 0 0,.slice none 0 0] 94 (0,0)) by
  rw[←hW,←hz];have:=heap_alloc_new ((w.alloc (.cells #[.slice a n c] 25)).alloc (.cells #[iv x1,iv x2,iv x3,iv x4] 108)) (.cells #[iv 0,.string ⟨#[]⟩,.slice none 0 0,.slice none 0 0] 94)
  rwa [World.size_alloc,World.size_alloc] at this)
 have BW:=Zh (show Below z w W by rw[←hW,←hz];exact((Zb).alloc ZS _).alloc (by simp;omega) _);have HWW:=Zh hW;have HZ:=Zh hz;have zW:z≤W.heap.size:=by have:=BW.o.size;omega
 have HX:=Zh hX;have HL:=Zh hl;have HIB:=Zh hib;clear h hW kw hf hl hc hI hr hX hib;obtain⟨d0,d1,d2,d3⟩:=Qt HNB.o;go_enter Tryz.func47,Tryz.ntmps47;go_upto_region 1 with(fail)
 rw[show((w.alloc (.cells #[.slice a n c] 25)).alloc (.cells #[iv x1,iv x2,iv x3,iv x4] 108)).alloc (.cells #[iv 0,.string ⟨#[]⟩,.slice none 0 0,.slice none 0 0] 94)=W from HWW.o]
 try rw[hz]
 go_wp2_with fail;refine(HI.o W).mono ?_;rintro e w1 ⟨rfl,b1⟩;have HPB1:=Zh (Qc HPB.o b1 (Qb HPB.o));have HNB1:=Zh (Qc HNB.o b1 (Qb HNB.o));have HRB1:=Zh (Qc HRB.o b1 (Qb HRB.o));have HB1:=Zh (BW.o.trans (b1.mono zW));clear b1 d0 d1 d2 d3
 cases ib with
|false=>
  have HF:=Zh (show r=none by rw[HS.o];simp);have fr:=(Qa HRB1.o).2;obtain⟨r0,r1,r2,r3⟩:=Qt HRB1.o;go_wp2;rw[HF.o];obtain⟨z0,z1,z2,z3⟩:=Qt (set4 HRB1.o (iv 0) (.string ⟨#[]⟩) (.slice none 0 0) (.slice none 0 0));exact bodyPost_ret (v:=.tuple #[.agg #[iv 0,.string ⟨#[]⟩,.slice none 0 0,.slice none 0 0],.bool false]) (by simp[results,Tryz.results47,go_sem,z0,z1,z2,z3]) rfl ⟨_,_,rfl,Qg.nil,Qg.nil,by rw[HZ.o];exact((((HB1.o).setCell (by show z≤z+1+1;omega) _).setCell (by show z≤z+1+1;omega) _).setCell (by show z≤z+1+1;omega) _).setCell (by show z≤z+1+1;omega) _⟩
|true=>
  obtain⟨d0,d1,d2,d3⟩:=Qt HNB1.o;have x0:=(Qd HPB1.o).1 0;simp at x0;have K:=Zh (HV.o w1 HB1.o);go_wp2_with fail;refine K.o.mono ?_;rintro e w2 ⟨rfl,b2⟩;have HPB2:=Zh (Qc HPB1.o b2 (Qb HPB1.o));have HNB2:=Zh (Qc HNB1.o b2 (Qb HNB1.o));have HRB2:=Zh (Qc HRB1.o b2 (Qb HRB1.o));have HB2:=Zh (HB1.o.trans (b2.mono (by have:=HB1.o.size;omega)));clear b2 d0 d1 d2 d3 x0 K;have fr:=(Qa HRB2.o).2;by_cases hm:X∈QR p;rotate_left
  ·have HF:=Zh (show r=none by rw[HS.o];simp[hm]);have hid:=QLp hm;rw[hid];clear hm hid;obtain⟨r0,r1,r2,r3⟩:=Qt HRB2.o;go_wp2;rw[HF.o];obtain⟨z0,z1,z2,z3⟩:=Qt (set4 HRB2.o (iv 0) (.string ⟨#[]⟩) (.slice none 0 0) (.slice none 0 0));exact bodyPost_ret (v:=.tuple #[.agg #[iv 0,.string ⟨#[]⟩,.slice none 0 0,.slice none 0 0],.bool false]) (by simp[results,Tryz.results47,go_sem,z0,z1,z2,z3]) rfl ⟨_,_,rfl,Qg.nil,Qg.nil,by rw[HZ.o];exact((((HB2.o).setCell (by show z≤z+1+1;omega) _).setCell (by show z≤z+1+1;omega) _).setCell (by show z≤z+1+1;omega) _).setCell (by show z≤z+1+1;omega) _⟩
  ·obtain⟨ik,hik,-⟩:=Qgc hm;rw[hik];obtain⟨i,k,j,f,b,s,e2,e3,e4,hf,hb,hs,hsp⟩:=Qti hm HIB.o;have HF:=Zh (show r=some s by rw[HS.o,if_pos ⟨trivial,hm⟩];exact hsp);rw[←HX.o] at e2 e3 e4;simp only at e2 e3 e4;subst e2 e3 e4;obtain⟨fb,fo,bv,rfl,hfb,-,g1,hbl⟩:=HC.o i f hf;obtain⟨ba,bc,rfl,-,hbc⟩:=hbl.cell;obtain⟨kb,ko,tv,rfl,hkb,-,k1,hsl⟩:=hbc k b hb;obtain⟨sa,sc,rfl,-,hsc⟩:=hsl.cell;obtain⟨s4,s5,u,t,rfl,hs4,c0,c1,c2,c3,hu,ht⟩:=hsc j s hs;have hfl:i<n:=by have:=(List.getElem?_eq_some_iff.1 hf).1;have:=HL.o;omega
   have hbl2:k<f.blocks.length:=(List.getElem?_eq_some_iff.1 hb).1;have hsl2:j<b.stmts.length:=(List.getElem?_eq_some_iff.1 hs).1;obtain⟨bn,hbn⟩:=Ze f.blocks.length;obtain⟨sn,hsn⟩:=Ze b.stmts.length;rw[hbn] at hbl2 g1;rw[hsn] at hsl2 k1;have HU:=Zh hu;have HT:=Zh ht;obtain⟨ua,uc,rfl,-⟩:=hu.cell;obtain⟨ta,tc,rfl,-⟩:=ht.cell;obtain⟨un,hun⟩:=Ze s.uses.length;obtain⟨tn,htn⟩:=Ze s.targets.length;rw[hun] at c2 HU;rw[htn] at c3 HT;rw[hz] at hfb hkb hs4;have g1:=(HB2.o.cell (p:=⟨fb,fo+i*2+1,none⟩) hfb).trans g1;have k1:=(HB2.o.cell (p:=⟨kb,ko+k*2+1,none⟩) hkb).trans k1;have c0:=(HB2.o.cell (p:=⟨s4,s5+j*4,none⟩) hs4).trans c0;have c1:=(HB2.o.cell (p:=⟨s4,s5+j*4+1,none⟩) hs4).trans c1;have c2:=(HB2.o.cell (p:=⟨s4,s5+j*4+2,none⟩) hs4).trans c2;have c3:=(HB2.o.cell (p:=⟨s4,s5+j*4+3,none⟩) hs4).trans c3;have ne1:(fb==z+1+1)=false:=by simp;omega
   have ne2:(kb==z+1+1)=false:=by simp;omega
   have ne3:(s4==z+1+1)=false:=by simp;omega
   have ne4:(z==z+1+1)=false:=by simp;omega
   have ne5:(z+1==z+1+1)=false:=by simp
   have lt1:(i:Int)<(n:Int):=by omega
   have lt2:(k:Int)<(bn:Int):=by omega
   have lt3:(j:Int)<(sn:Int):=by omega
   obtain⟨d0,d1,d2,d3⟩:=Qt HNB2.o;obtain⟨r0,r1,r2,r3⟩:=Qt HRB2.o;have x0:=(Qd HPB2.o).1 0;simp at x0;obtain⟨op,hop⟩:=Ze s.op;obtain⟨dn,hdn⟩:=Ze s.dfn;have HOP:=Zh hop;have HDN:=Zh hdn;rw[hop] at c0;rw[hdn] at c1;clear hf hb hs hsp hbl hbc hsl hsc hu ht hbn hsn hun htn hik hm hop hdn hbl2 hsl2 hfl hfb hkb hs4;go_upto_region 3 with(fail)
   go_region;go_wp2;rw[HF.o];have B3:=Qp (((((HB2.o).setCell (p:=⟨z+1+1,0,none⟩) (by show z≤z+1+1;omega) (iv op)).setCell (p:=⟨z+1+1,1,none⟩) (by show z≤z+1+1;omega) (sv dn)).setCell (p:=⟨z+1+1,2,none⟩) (by show z≤z+1+1;omega) (.slice ua un uc)).setCell (p:=⟨z+1+1,3,none⟩) (by show z≤z+1+1;omega) (.slice ta tn tc)) 1;have hz4:=set4 HRB2.o (iv op) (sv dn) (.slice ua un uc) (.slice ta tn tc);obtain⟨V,hV⟩:=Ze (((((w2.setCell ⟨z+1+1,0,none⟩ (iv op)).setCell ⟨z+1+1,1,none⟩ (sv dn)).setCell ⟨z+1+1,2,none⟩ (.slice ua un uc)).setCell ⟨z+1+1,3,none⟩ (.slice ta tn tc)).drew);have HV4:V.heap[z+1+1]? = some (.cells #[iv op,sv dn,.slice ua un uc,.slice ta tn tc] 94 (0,0)):=by rw[←hV];exact hz4
   have B4:Below z w V:=hV▸B3;rw[show((((w2.setCell ⟨z+1+1,0,none⟩ (.int .i64 op)).setCell ⟨z+1+1,1,none⟩ (.string ⟨dn.toArray⟩)).setCell ⟨z+1+1,2,none⟩ (.slice ua un uc)).setCell ⟨z+1+1,3,none⟩ (.slice ta tn tc)).drew=V from hV];clear hV B3 hz4;obtain⟨z0,z1,z2,z3⟩:=Qt HV4;refine bodyPost_ret (v:=.tuple #[.agg #[iv op,sv dn,.slice ua un uc,.slice ta tn tc],.bool true]) (by simp[results,Tryz.results47,go_sem,z0,z1,z2,z3]) rfl ⟨.slice ua un uc,.slice ta tn tc,?_,?_,?_,?_⟩
   ·simp[HOP.o,HDN.o]
   ·exact HU.o.same (Qf.below (HZ.o.symm▸B4))
   ·exact HT.o.same (Qf.below (HZ.o.symm▸B4))
   ·exact HZ.o.symm▸B4
end
section
open Go.RowKit
variable [Base]
abbrev FT:TypeId:=154
def QTm (n:Qra):List Value:=[iv n.node,iv n.var]
def Quf (l:List Qra):List Value:=(l.map QTm).flatten
def Qqd (w:World)(v:Value)(l:List Qra):Prop:=Qg w FT 2 v (Quf l)
def QTb (z:Nat)(w:World)(v:Value)(l:List Qra):Prop:=w.ownsRow z FT 2 v l.length (Quf l)
theorem QPo (l:List Qra):∀x∈l.map QTm,x.length=2:=fun x hx=>by
 obtain⟨n,-,rfl⟩:=List.mem_map.1 hx
 rfl
theorem QQo (a b:List Qra):Quf (a++b)=Quf a++Quf b:=by simp[Quf]
theorem QTb.at_ {z:Nat}{w:World}{v:Value}{l:List Qra}(h:QTb z w v l):Qqd w v l:=Qg.of_owns h
theorem QTb.below {z:Nat}{w w':World}{v:Value}{l:List Qra}(h:QTb z w v l)(b:Below w.heap.size w w'):QTb z w' v l:=QZd h b
theorem QTb.nil {z:Nat}{w:World}:QTb z w (.slice none 0 0) []:=by simp[QTb,World.ownsRow,Quf]
theorem QTb.push {z g cap:Nat}{w:World}{l:List Qra}{n:Qra}(h:w.ownsRow z FT 2 (.slice (some ⟨g,0,none⟩) (l.length+1) cap) (l.length+1) (Quf l++QTm n)):QTb z w (.slice (some ⟨g,0,none⟩) (l.length+1) cap) (l++[n]):=by
 unfold QTb;rw[QQo,List.length_append]
 simpa [Quf] using h
theorem Qqd.below {w w':World}{v:Value}{l:List Qra}(h:Qqd w v l)(b:Below w.heap.size w w'):Qqd w' v l:=h.same (Qf.below b)
theorem Qqd.cell {w:World}{v:Value}{l:List Qra}(h:Qqd w v l):∃a c,v=.slice a l.length c∧l.length≤maxLen∧l.length≤c∧c≤maxLen∧∀k n,l[k]? = some n→∃b off,a=some ⟨b,off,none⟩∧b<w.heap.size ∧
  w.cell? ⟨b,off+k*2,none⟩=some (iv n.node)∧w.cell? ⟨b,off+k*2+1,none⟩=some (iv n.var):=by
 obtain⟨a,c,e,hm,h3,h4,hc⟩:=QYg h (QPo l) ZO;rw[List.length_map] at e hm h3;refine⟨a,c,e,hm,h3,h4,fun k n hk=>?_⟩;have hx:(l.map QTm)[k]? = some (QTm n):=by rw[List.getElem?_map,hk];rfl
 obtain⟨b,off,rfl,hlt,_,hc2⟩:=hc k _ hx;exact⟨b,off,rfl,hlt,hc2 0 ZO,hc2 1 ZO⟩
theorem QDk:(Tryz.prog.info? FT).map (fun i=>(i.zero,i.size,i.bytes))=some (some (Value.agg #[iv 0,iv 0]),2,16):=by kernel_rfl
theorem Qse {α:Type} [DecidableEq α]{l:List α}{k:Nat}{x:α}(h:l[k]? = some x)(hn:x∉l.take k):idxI l x=(k:Int):=by
 unfold idxI;rw[if_pos (List.mem_of_getElem? h),QAg h hn]
theorem QBj (l:List Str)(v:Value)(x:Str)(w:World)(h:Qea w v l):
  Calls Tryz.prog 160 #[v,sv x] w (IntQ (idxI l x) w):=by
 obtain⟨a,c,rfl,hn,hc⟩:=h.cell;have HC:=Zh hc;obtain⟨n,hl⟩:=Ze l.length;rw[hl] at hn ⊢;have HL:=Zh hl;clear hc h hl;unfold maxLen at hn;go_enter Tryz.func160,Tryz.ntmps160;go_wp2;go_loopw [8] (fun y wr=>∃k:Nat,k≤n∧y=.int .i64 k∧w=wr∧Hid (x∉l.take k)) (fun y _=>n-(intOf y).toNat)
 case atStart=>exact⟨0,Nat.zero_le _,rfl,rfl,by unfold Hid;simp⟩
 case round=>
  obtain⟨k,hk,rfl,rfl,HNI⟩:=hrel;by_cases hlt:k<n
  ·obtain⟨y,hy⟩:∃y,l[k]? = some y:=⟨_,List.getElem?_eq_getElem (by rw[HL.o];exact hlt)⟩;obtain⟨b1,o1,rfl,hb1,g1⟩:=HC.o k y hy;by_cases hxy:y=x
   ·subst hxy;have HK:=Zh (show idxI l y=(k:Int) from Qse hy HNI.o);clear hy;go_wp2;go_ret;exact⟨Qob HK.o.symm,Below.refl _ _⟩
   ·have HN1:=Zh (show x∉l.take (k+1) by
     rw[List.take_add_one,hy];intro h;rcases List.mem_append.1 h with h|h
     ·exact HNI.o h
     ·simp at h;exact hxy h.symm)
    have he1:(x==y)=false:=by simpa using fun e=>hxy (Eq.symm e)
    clear hy hxy;go_wp2;go_roundw
    case rel=>exact⟨k+1,by omega,by go_num,(by first|rfl|trivial),HN1⟩
    case measure=>simp[intOf];omega
  ·have HK:=Zh (show idxI l x = -1 by
    unfold idxI;rw[if_neg (fun h=>HNI.o (by rwa [List.take_of_length_le (by rw[HL.o];omega)]))])
   go_wp2;go_ret;exact⟨Qob HK.o.symm,Below.refl _ _⟩
def Qth (vars:List Str)(p:List Qo)(n:Qx)(i:Nat):List Qra:=if n.kind=3 then match QFd p n with|some s=>if dfnB s.op then [⟨i,idxI vars s.dfn⟩] else []|none=>[] else []
theorem QLj (vars:List Str)(p:List Qo):∀(a b:List Qx) (i:Nat),QUa vars p (a++b) i=QUa vars p a i++QUa vars p b (i+a.length)
|[],b,i=>by simp[QUa]
|x::r,b,i=>by
  show Qth vars p x i++QUa vars p (r++b) (i+1)=_
  rw[QLj vars p r b (i+1),←List.append_assoc,List.length_cons,show i+1+r.length=i+(r.length+1) by omega]
  rfl
theorem Qan {vars:List Str}{p:List Qo}{l:List Qx}{i:Nat}{n:Qx}(h:l[i]? = some n):QUa vars p (l.take (i+1)) 0=QUa vars p (l.take i) 0++Qth vars p n i:=by
 rw[List.take_add_one,h];show QUa vars p (l.take i++[n]) 0=_;rw[QLj,(Qgd h).2,Nat.zero_add];show _++(Qth vars p n i++[])=_;rw[List.append_nil]
theorem QJg (vars:List Str)(p:List Qo):∀(l:List Qx) (i:Nat),(QUa vars p l i).length≤l.length
|[],i=>by simp[QUa]
|x::r,i=>by
  have h:=QJg vars p r (i+1)
  show(Qth vars p x i++QUa vars p r (i+1)).length≤_
  have h2:(Qth vars p x i).length≤1:=by
   unfold Qth
   repeat' split
   all_goals simp
  simp only[List.length_append,List.length_cons];omega
def QFu (l:List Qra)(w:World)(e:Ending)(w':World):Prop:=∃v,e=.returned v∧QTb w.heap.size w' v l∧Below w.heap.size w w'
theorem QIs {B:Nat}{w:World}(kw:KwIn B w)(hB:B≤w.heap.size)(p:List Qo)(v:Value)(h:QAa w v p)(hf:∀f∈p,∀b∈f.blocks,∀s∈b.stmts,FitS s)(vars:List Str)(vv:Value)(hvv:Qea w vv vars):
  Calls Tryz.prog 97 #[.agg #[v],vv] w (QFu (QUa vars p (QR p) 0) w):=by
 obtain⟨z,hz⟩:=Ze w.heap.size;have hbz:Base.b≤z:=by have:=kw.bs;omega
 have HV:=Zh (fun (x:World) (b:Below z w x)=>Qyj (kw.keep fun k hk=>b.block k ZO) (by have:=b.size;omega) p v (h.keep (Qf.below (hz▸b)) (Qf.below (hz▸b)) (Qf.below (hz▸b)) (Qf.below (hz▸b))) hf);have HS:=Zh (fun (x:World) (b:Below z w x) y=>Qjk (kw.keep fun k hk=>b.block k ZO) (by have:=b.size;omega) p v (h.keep (Qf.below (hz▸b)) (Qf.below (hz▸b)) (Qf.below (hz▸b)) (Qf.below (hz▸b))) hf y);have HI:=Zh (fun (x:World) (b:Below z w x) y=>QBj vars vv y x (Qg.same hvv (Qf.below (hz▸b))));obtain⟨a,c,rfl,hn,-⟩:=h.cell;obtain⟨va,vc,rfl,-,-⟩:=hvv.cell;obtain⟨vn,hvn⟩:=Ze vars.length;obtain⟨n,hl⟩:=Ze p.length;rw[hl] at hn HV HS ⊢;rw[hvn] at HI ⊢;obtain⟨N,hN⟩:=Ze (QR p);rw[hN] at HV ⊢;have hN256:N.length≤256:=by rw[←hN];exact Qme
 have HNP:=Zh hN;obtain⟨W,hW⟩:=Ze (w.alloc (.cells #[.slice a n c] 25));have HPB:=Zh (show W.heap[z]? = some (.cells #[.slice a n c] 25 (0,0)) by rw[←hW,←hz];exact heap_alloc_new _ _);have BW:=Zh (show Below z w W by rw[←hW,←hz];exact Zb);have HWW:=Zh hW;have HZ:=Zh hz;clear h hW kw hf hN hl hvv hvn;have x0:=(Qd HPB.o).1 0;simp at x0;go_enter Tryz.func97,Tryz.ntmps97;go_upto_region 1 with(fail)
 rw[show w.alloc (.cells #[.slice a n c] 25)=W from HWW.o]
 try rw[hz]
 go_wp2_with fail;refine(HV.o W BW.o).mono ?_;rintro e w1 ⟨nv,rfl,ho,b1⟩;obtain⟨na,nc,rfl,hnm,hnc1,hnc2,hcell⟩:=ho.at_.cell;have HCE:=Zh hcell;obtain⟨m,hm⟩:=Ze N.length;rw[hm] at hN256 ⊢;have HM:=Zh hm;have HPB1:=Zh (Qc HPB.o b1 (Qb HPB.o));have HB1:=Zh (BW.o.trans (b1.mono (by have:=BW.o.size;omega)));have hs1:z<w1.heap.size:=Qb HPB1.o;clear b1 hcell ho x0 hm hnm hnc1 hnc2;go_wp2;go_loopw [5,13] (fun V y wr=>∃(k:Nat) (Y:Value),k≤m∧Y=V∧y=.int .i64 k∧Hid (Below w1.heap.size w1 wr)∧w1.heap.size≤wr.heap.size∧Hid (QTb w1.heap.size wr Y (QUa vars p (N.take k) 0))) (fun _ y _=>m-(intOf y).toNat)
 case atStart=>exact⟨0,_,Nat.zero_le _,rfl,rfl,Below.refl _ _,Nat.le_refl _,QTb.nil⟩
 case round=>
  obtain⟨k,V,hk,rfl,rfl,HB,hsr,HO⟩:=hrel;by_cases hlt:k<m;rotate_left
  ·have HO2:=Zh (show QTb w1.heap.size wr V (QUa vars p N 0) by rw[←show N.take k=N from List.take_of_length_le (by rw[HM.o];omega)];exact HO.o);have HB2:=Zh (HB1.o.trans (HB.o.mono ZO));go_wp2;exact bodyPost_ret (v:=V) (by simp[results,Tryz.results97,go_sem]) rfl ⟨_,rfl,by rw[HZ.o];exact Qjm HO2.o ZO,by rw[HZ.o];exact HB2.o⟩
  ·obtain⟨y,hy⟩:∃y,N[k]? = some y:=⟨_,List.getElem?_eq_getElem (by rw[HM.o];exact hlt)⟩;obtain⟨b4,o4,rfl,hb4,c0,c1,c2,c3⟩:=HCE.o k y hy;have c0:=(HB.o.cell (p:=⟨b4,o4+k*4,none⟩) hb4).trans c0;have c1:=(HB.o.cell (p:=⟨b4,o4+k*4+1,none⟩) hb4).trans c1;have c2:=(HB.o.cell (p:=⟨b4,o4+k*4+2,none⟩) hb4).trans c2;have c3:=(HB.o.cell (p:=⟨b4,o4+k*4+3,none⟩) hb4).trans c3;have HDT:=Zh (Qan (vars:=vars) (p:=p) hy);have HSO:=Zh (show insN y=true→QAf p y=QFd p y from fun h=>by unfold QAf;rw[if_pos ⟨h,by rw[HNP.o];exact List.mem_of_getElem? hy⟩]);have hlen:=QJg vars p (N.take k) 0;rw[List.length_take] at hlen;obtain⟨D,hD⟩:=Ze (QUa vars p (N.take k) 0);rw[hD] at HDT HO hlen;have hD256:D.length≤256:=by omega
   obtain⟨y1,y2,y3,y4⟩:=y;simp only at c0 c1 c2 c3;have BX:=(Below.refl wr.heap.size wr).alloc (Nat.le_refl _) (.cells #[iv y1,iv y2,iv y3,iv y4] 108);obtain⟨U,hU⟩:=Ze (wr.alloc (.cells #[iv y1,iv y2,iv y3,iv y4] 108));have BU:=Zh (hU▸BX);have HXB:=Zh (show U.heap[wr.heap.size]? = some (.cells #[iv y1,iv y2,iv y3,iv y4] 108 (0,0)) by rw[←hU];exact heap_alloc_new _ _);have HUU:=Zh hU;have zwr:z≤wr.heap.size:=by omega
   have HBU:=Zh (HB1.o.trans ((HB.o.trans (BU.o.mono hsr)).mono ZO));have HBU1:=Zh (HB.o.trans (BU.o.mono hsr));have HOU:=Zh (HO.o.below BU.o);have HPU:=Zh (Qc HPB1.o HBU1.o hs1);have zU:z≤U.heap.size:=Nat.le_trans zwr BU.o.size;obtain⟨xb,hxb⟩:=Ze wr.heap.size;rw[hxb] at HXB BU;have hxz:z<xb:=by omega
   clear hy hU BX hlen hD HB HO;go_upto_region 5 with(fail)
   rw[show wr.alloc (.cells #[iv y1,iv y2,iv y3,iv y4] 108)=U from HUU.o]
   try rw[hxb]
   clear c0 c1 c2 c3;obtain⟨d0,d1,d2,d3⟩:=Qt HXB.o;have x0:=(Qd HPU.o).1 0;simp at x0;go_wp2_with fail;refine(HS.o U HBU.o ⟨y1,y2,y3,y4⟩).mono ?_;rintro e w3 ⟨u,t,rfl,hu,ht,b3⟩;obtain⟨ua,uc,rfl,-⟩:=hu.cell;obtain⟨ta,tc,rfl,-⟩:=ht.cell;obtain⟨r,hr⟩:=Ze (QAf p ⟨y1,y2,y3,y4⟩);rw[hr] at HSO ⊢;clear hu ht hr;obtain⟨⟨op,dn,us,ts⟩,hs⟩:∃s,r.getD Qie=s:=⟨_,rfl⟩;rw[hs];simp only;obtain⟨un,hun⟩:=Ze us.length;obtain⟨tn,htn⟩:=Ze ts.length;rw[hun,htn];have HRS:=Zh hs;clear hs hun htn d0 d1 d2 d3 x0;have HDF:=Zh (show Qth vars p ⟨y1,y2,y3,y4⟩ k=if y1=3∧dfnB op=true then [⟨k,idxI vars dn⟩] else [] by
    unfold Qth;by_cases h3:y1=3
    ·subst h3;rw[if_pos rfl,←HSO.o (by simp[insN])]
     cases r with
    |none=>
      have h0:=HRS.o;injection h0 with h1 h2 h3 h4
      subst h1;simp[dfnB]
    |some s=>
      have h0:=HRS.o;simp only[Option.getD_some] at h0;subst h0;simp
    ·rw[if_neg h3,if_neg (fun h=>h3 h.1)])
   obtain⟨V3,hV3⟩:=Ze (w3.alloc (.cells #[iv op,sv dn,.slice ua un uc,.slice ta tn tc] 94));have BV:=(Below.refl w3.heap.size w3).alloc (Nat.le_refl _) (.cells #[iv op,sv dn,.slice ua un uc,.slice ta tn tc] 94);rw[hV3] at BV;have b3V:=b3.trans (BV.mono b3.size);have HSB:=Zh (show V3.heap[w3.heap.size]? = some (.cells #[iv op,sv dn,.slice ua un uc,.slice ta tn tc] 94 (0,0)) by rw[←hV3];exact heap_alloc_new _ _);have HXV:=Zh (Qc HXB.o b3V (Qb HXB.o));have HOV:=Zh (HOU.o.below b3V);have HBV:=Zh (HBU1.o.trans (b3V.mono (by have:=HBU1.o.size;omega)));have zV:z≤V3.heap.size:=by have:=b3V.size;omega
   have sV:w1.heap.size≤V3.heap.size:=HBV.o.size;have HV3:=Zh hV3;obtain⟨sb,hsb⟩:=Ze w3.heap.size;rw[hsb] at HSB;clear b3 BV b3V hV3 HBU HOU HPU HXB;go_upto_region 6 with(fail)
   rw[show w3.alloc (.cells #[iv op,sv dn,.slice ua un uc,.slice ta tn tc] 94)=V3 from HV3.o]
   try rw[hsb]
   clear hsb;obtain⟨d0,d1,d2,d3⟩:=Qt HXV.o;obtain⟨s0,s1,s2,s3⟩:=Qt HSB.o;by_cases h3:y1=3;rotate_left
   ·have h3':(y1==3)=false:=by simpa using h3
    have HO3:=Zh (show QTb w1.heap.size V3 V (QUa vars p (N.take (k+1)) 0) by rw[HDT.o,HDF.o,if_neg (fun h=>h3 h.1),List.append_nil];exact HOV.o);clear h3;go_wp2;go_roundw
    case rel=>exact⟨k+1,_,by omega,rfl,by go_num,HBV,sV,HO3⟩
    case measure=>simp[intOf];omega
   ·have h3':(y1==3)=true:=by simpa using h3
    obtain⟨db,hdb⟩:=Ze (dfnB op);rw[hdb] at HDF;have KD:=Zh (hdb▸@Qbn _ ⟨op,dn,us,ts⟩ (.slice ua un uc) (.slice ta tn tc) V3);clear hdb;go_wp2_with fail;refine KD.o.mono ?_;rintro e w4 ⟨rfl,b4'⟩;have HO4:=Zh (HOV.o.below b4');have HB4:=Zh (HBV.o.trans (b4'.mono sV));have HSB4:=Zh (Qc HSB.o b4' (Qb HSB.o));have sV4:w1.heap.size≤w4.heap.size:=HB4.o.size;clear b4' d0 d1 d2 d3 s0 s1 s2 s3 KD
    cases db with
   |false=>
     have HO3:=Zh (show QTb w1.heap.size w4 V (QUa vars p (N.take (k+1)) 0) by rw[HDT.o,HDF.o,if_neg ZS,List.append_nil];exact HO4.o);clear h3;go_wp2;go_roundw
     case rel=>exact⟨k+1,_,by omega,rfl,by go_num,HB4,sV4,HO3⟩
     case measure=>simp[intOf];omega
   |true=>
     have HB04:=Zh (HB1.o.trans (HB4.o.mono ZO));obtain⟨s0,s1,s2,s3⟩:=Qt HSB4.o;have KI:=Zh (HI.o w4 HB04.o dn);obtain⟨ix,hix⟩:=Ze (idxI vars dn);rw[hix] at KI HDF;have HDF2:=Zh (show Qth vars p ⟨y1,y2,y3,y4⟩ k=[⟨k,ix⟩] by rw[HDF.o,if_pos ⟨h3,rfl⟩]);clear h3 hix;go_wp2_with fail;refine KI.o.mono ?_;rintro e w5 ⟨rfl,b5⟩;have HO5:=Zh (HO4.o.below b5);have HB5:=Zh (HB4.o.trans (b5.mono sV4));have zw5:z≤w5.heap.size:=by have:=b5.size;omega
     have sV5:w1.heap.size≤w5.heap.size:=by have:=b5.size;omega
     clear b5 s0 s1 s2 s3 KI;go_wp2_with (at_builtin;refine QL [iv (k:Int),iv ix] rfl _ _ _ rfl w1.heap.size FT _ 2 16 Tryz.underlying101 QDk rfl ZO _ _ _ HO5.o rfl rfl rfl rfl (by unfold maxLen;omega) ZO sV5 ?_;intro g cap w6 ho hg hzg _;have HO6:=Zh (QTb.push (n:=⟨(k:Int),ix⟩) ho);have HB6:=Zh (HB5.o.trans (Below.of_grown hg HO5.o sV5));clear ho hg hzg);go_roundw
     case rel=>exact⟨k+1,_,by omega,rfl,by go_num,HB6,HB6.o.size,Zh (by rw[HDT.o,HDF2.o];exact HO6.o)⟩
     case measure=>simp[intOf];omega
end
section
open Go.RowKit
variable [Base]
def QGu (l:List Qra)(er:Int)(w:World)(e:Ending)(w':World):Prop:=∃v,e=.returned (.tuple #[v,iv er])∧QTb w.heap.size w' v l∧Below w.heap.size w w'
def Qdg (n:Nat):List Qra:=(List.range n).map fun v:Nat=>(⟨-1,(v:Int)⟩:Qra)
theorem Qxn (n:Nat):Qdg (n+1)=Qdg n++[⟨-1,(n:Int)⟩]:=by
 unfold Qdg;rw[List.range_succ,List.map_append];rfl
theorem QEh (n:Nat):(Qdg n).length=n:=by simp[Qdg]
theorem Qjr {B:Nat}{w:World}(kw:KwIn B w)(hB:B≤w.heap.size)(p:List Qo)(v:Value)(h:QAa w v p)(hf:∀f∈p,∀b∈f.blocks,∀s∈b.stmts,FitS s)(kind:Int):
  Calls Tryz.prog 43 #[.agg #[v],iv kind] w (QGu (QC p kind) (Qxb p kind) w):=by
 obtain⟨z,hz⟩:=Ze w.heap.size;have hbz:Base.b≤z:=by have:=kw.bs;omega
 have HV:=Zh (fun (x:World) (b:Below z w x)=>QYh (kw.keep fun k hk=>b.block k ZO) (by have:=b.size;omega) p v (h.keep (Qf.below (hz▸b)) (Qf.below (hz▸b)) (Qf.below (hz▸b)) (Qf.below (hz▸b))) hf);have HVA:=Zh (fun (x:World) (b:Below z w x) hv=>QPi (kw.keep fun k hk=>b.block k ZO) (by have:=b.size;omega) p v (h.keep (Qf.below (hz▸b)) (Qf.below (hz▸b)) (Qf.below (hz▸b)) (Qf.below (hz▸b))) hf hv);have HDE:=Zh (fun (x:World) (b:Below z w x) vars vv hvv=>QIs (kw.keep fun k hk=>b.block k ZO) (by have:=b.size;omega) p v (h.keep (Qf.below (hz▸b)) (Qf.below (hz▸b)) (Qf.below (hz▸b)) (Qf.below (hz▸b))) hf vars vv hvv);obtain⟨a,c,rfl,hn,-⟩:=h.cell;obtain⟨n,hl⟩:=Ze p.length;rw[hl] at hn HV HVA HDE ⊢;obtain⟨W,hW⟩:=Ze (w.alloc (.cells #[.slice a n c] 25));have HPB:=Zh (show W.heap[z]? = some (.cells #[.slice a n c] 25 (0,0)) by rw[←hW,←hz];exact heap_alloc_new _ _);have BW:=Zh (show Below z w W by rw[←hW,←hz];exact Zb);have HWW:=Zh hW;have HZ:=Zh hz;obtain⟨er,her⟩:=Ze (QFa p);rw[her] at HV;have HER:=Zh her;clear h hW kw hf hl her;have x0:=(Qd HPB.o).1 0;simp at x0;obtain⟨F,hF⟩:=Ze (QC p kind);obtain⟨fe,hfe⟩:=Ze (Qxb p kind);have HFE:=Zh (show fe=if er≠0 then er else if kind<1∨4<kind then 3 else if 256<(QBc p kind).length then 7 else 0 by rw[←hfe,←HER.o];rfl);have HFF:=Zh (show F=if fe=0 then QBc p kind else [] by rw[←hfe,←hF];rfl);rw[hF,hfe];clear hF hfe;go_enter Tryz.func43,Tryz.ntmps43;go_upto_region 1 with(fail)
 rw[show w.alloc (.cells #[.slice a n c] 25)=W from HWW.o]
 try rw[hz]
 go_wp2_with fail;refine(HV.o W BW.o).mono ?_;rintro e w1 ⟨na,nb,nc,nd,rfl,b1⟩;have b2:=b1.trans (((Below.refl w1.heap.size w1).alloc (Nat.le_refl _) (.cells #[iv na,iv nb,iv nc,iv nd] 108)).mono b1.size);obtain⟨w2,hw2⟩:=Ze (w1.alloc (.cells #[iv na,iv nb,iv nc,iv nd] 108));have HW2:=Zh hw2;rw[hw2] at b2;have HP2:=Zh (Qc HPB.o b2 (Qb HPB.o));have zW:z≤W.heap.size:=by have:=BW.o.size;omega
 have HB2:=Zh (BW.o.trans (b2.mono zW));have zw2:z≤w2.heap.size:=by have:=HB2.o.size;omega
 clear b1 b2 hw2 x0 zW;by_cases he:er=0;rotate_left
 ·have hne:(er != 0)=true:=by simpa using he
  have H1:=Zh (show fe=er by rw[HFE.o,if_pos he]);have H2:=Zh (show F=[] by rw[HFF.o,if_neg (by rw[H1.o];exact he)]);clear he;go_wp2;refine bodyPost_ret (v:=.tuple #[.slice none 0 0,iv er]) (by simp[results,Tryz.results43,go_sem]) rfl ⟨.slice none 0 0,?_,?_,?_⟩
  ·rw[H1.o]
  ·rw[H2.o];exact QTb.nil
  ·rw[HZ.o];exact HW2.o▸HB2.o
 have hne:(er != 0)=false:=by simpa using he
 have HFE2:=Zh (show fe=if kind<1∨4<kind then 3 else if 256<(QBc p kind).length then 7 else 0 by rw[HFE.o,he];rfl);have HCK:=Zh (Qzb (show QFa p=0 by rw[HER.o,he]));clear he;go_upto_region 4 with(fail)
 rw[show w1.alloc (.cells #[iv na,iv nb,iv nc,iv nd] 108)=w2 from HW2.o];by_cases hk:kind<1∨4<kind
 ·have H1:=Zh (show fe=3 by rw[HFE2.o,if_pos hk]);have H2:=Zh (show F=[] by rw[HFF.o,if_neg (by rw[H1.o];omega)]);by_cases hk1:kind<1
  ·clear hk;go_wp2;refine bodyPost_ret (v:=.tuple #[.slice none 0 0,iv 3]) (by simp[results,Tryz.results43,go_sem]) rfl ⟨.slice none 0 0,?_,?_,?_⟩
   ·rw[H1.o]
   ·rw[H2.o];exact QTb.nil
   ·rw[HZ.o];exact HB2.o
  ·have hk4:4<kind:=by omega
   clear hk;go_wp2;refine bodyPost_ret (v:=.tuple #[.slice none 0 0,iv 3]) (by simp[results,Tryz.results43,go_sem]) rfl ⟨.slice none 0 0,?_,?_,?_⟩
   ·rw[H1.o]
   ·rw[H2.o];exact QTb.nil
   ·rw[HZ.o];exact HB2.o
 have HFE3:=Zh (show fe=if 256<(QBc p kind).length then 7 else 0 by rw[HFE2.o,if_neg hk]);have hk1:¬kind<1:=fun h=>hk (.inl h)
 have hk4:¬4<kind:=fun h=>hk (.inr h)
 have x0:=(Qd HP2.o).1 0;simp at x0;have KV:=Zh (HVA.o w2 HB2.o HCK.o.valid);clear hk;go_wp2_with fail;refine KV.o.mono ?_;rintro e w3 ⟨vv,rfl,hvo,b3⟩;have HVS:=Zh (show Qea w3 vv (QN p) from Qg.of_owns hvo);obtain⟨va,vc,rfl,-,-⟩:=QXa hvo;have hv64:=HCK.o.vars;obtain⟨vn,hvn⟩:=Ze ((QN p).length);rw[hvn] at HVS hv64 ⊢;have HVN:=Zh hvn;have HP3:=Zh (Qc HP2.o b3 (Qb HP2.o));have HB3:=Zh (HB2.o.trans (b3.mono zw2));have zw3:z≤w3.heap.size:=by have:=b3.size;omega
 clear b3 hvo x0 KV hvn;have x0:=(Qd HP3.o).1 0;simp at x0;by_cases hk:kind=1
 ·have HFL:=Zh (show QBc p kind=QUa (QN p) p (QR p) 0 by unfold QBc;rw[if_pos hk]);have HLN:=Zh (show(QBc p kind).length≤256 by rw[HFL.o];exact Nat.le_trans (QJg _ _ _ _) Qme);have H1:=Zh (show fe=0 by have:=HLN.o;rw[HFE3.o,if_neg ZO]);have H2:=Zh (show F=QBc p kind by rw[HFF.o,if_pos H1.o]);have KD:=Zh (HDE.o w3 HB3.o (QN p) _ HVS.o);rw[←HFL.o] at KD;obtain⟨G,hG⟩:=Ze (QBc p kind);rw[hG] at KD H2 HLN;obtain⟨gn,hgn⟩:=Ze G.length;have hg256:gn≤256:=hgn▸HLN.o;have HGN:=Zh hgn;have hk1':(kind==1)=true:=by simpa using hk
  clear hG hk hgn;go_wp2_with fail;refine KD.o.mono ?_;rintro e w4 ⟨u,rfl,hu,b4⟩;have HU:=Zh hu;obtain⟨ua,uc,rfl,-,-⟩:=QXa hu;rw[HGN.o] at HU ⊢;have HB4:=Zh (HB3.o.trans (b4.mono zw3));clear hu b4 x0;go_wp2;refine bodyPost_ret (v:=.tuple #[.slice ua gn uc,iv 0]) (by simp[results,Tryz.results43,go_sem]) rfl ⟨.slice ua gn uc,?_,?_,?_⟩
  ·rw[H1.o]
  ·rw[H2.o,HZ.o];exact Qjm HU.o zw3
  ·rw[HZ.o];exact HB4.o
 ·have HFL:=Zh (show QBc p kind=Qdg vn by unfold QBc Qdg;rw[if_neg hk,HVN.o]);have H1:=Zh (show fe=0 by rw[HFE3.o,HFL.o,QEh,if_neg ZO]);have H2:=Zh (show F=Qdg vn by rw[HFF.o,if_pos H1.o,HFL.o]);have hk1':(kind==1)=false:=by simpa using hk
  clear hk x0;go_wp2;go_loopw [9,34] (fun V y wr=>∃(k:Nat) (Y:Value),k≤vn∧Y=V∧y=.int .i64 k∧Hid (Below z w wr)∧z≤wr.heap.size∧Hid (QTb z wr Y (Qdg k))) (fun _ y _=>vn-(intOf y).toNat)
  case atStart=>exact⟨0,_,Nat.zero_le _,rfl,rfl,HB3.o,zw3,QTb.nil⟩
  case round=>
   obtain⟨k,V,hk,rfl,rfl,HB,hsr,HO⟩:=hrel;have hL:(Qdg k).length=k:=QEh k;by_cases hlt:k<vn
   ·have HVF:=Zh (Qxn k);go_wp2_with (at_builtin;refine QL [iv (-1),iv (k:Int)] rfl _ _ _ rfl z FT _ 2 16 Tryz.underlying101 QDk rfl ZO _ _ _ HO.o rfl rfl rfl rfl (by unfold maxLen;omega) ZO hsr ?_;intro g cap w6 ho hg hzg _;have HO6:=Zh (QTb.push (n:=⟨-1,(k:Int)⟩) ho);have HB6:=Zh (HB.o.trans (Below.of_grown hg HO.o hsr));clear ho hg hzg);go_roundw
    case rel=>exact⟨k+1,_,by omega,rfl,by go_num,HB6,by have:=HB6.o.size;omega,Zh (by rw[HVF.o];have h9:=HO6.o;rw[QEh] at h9;exact h9)⟩
    case measure=>simp[intOf];omega
   ·obtain rfl:k=vn:=by omega
    have HO2:=Zh HO.o;obtain⟨ua,uc,rfl,-,-⟩:=QXa HO.o;rw[hL] at HO2 ⊢;clear HO hL;go_wp2;refine bodyPost_ret (v:=.tuple #[.slice ua k uc,iv 0]) (by simp[results,Tryz.results43,go_sem]) rfl ⟨.slice ua k uc,?_,?_,?_⟩
    ·rw[H1.o]
    ·rw[H2.o,HZ.o];exact HO2.o
    ·rw[HZ.o];exact HB.o
end
section
open Go.RowKit
variable [Base]
theorem Qns:laidOutB Tryz.prog=true:=by kernel_rfl
theorem QLq:(match Tryz.prog.underlying NT with|some (.array _ _)|some (.struct _)=>true|_=>false)=true:=by kernel_rfl
theorem Qqm:(NT:TypeId)<Tryz.prog.types.size:=of_decide_eq_true ZK
theorem QCt:Tryz.prog.keyTypeAt 3 NT=true:=by kernel_rfl
theorem Qgs:Tryz.prog.keyType NT=true:=by kernel_rfl
theorem Qrj:Tryz.prog.cellsOf NT=4:=by kernel_rfl
theorem QYq:Tryz.prog.cellsOf 3=1:=by kernel_rfl
theorem Qfs:WideMaps.KeyLaw Tryz.prog NT:=deep_law_laid Qns (m:=3) ZO Qqm QCt QLq
theorem Qgo:Maps.Keyed Tryz.prog NT:=Maps.Keyed.of_law Qfs
def fitI (x:Int):Prop:=-4611686018427387904≤x∧x≤4611686018427387904
def fitN (n:Qx):Prop:=fitI n.kind∧fitI n.fn∧fitI n.bl∧fitI n.st
theorem Qdu {x:Int}(h:fitI x):(Lit.int .i64 x).wf=true:=by
 unfold fitI at h;unfold Lit.wf;simp[IntKind.min,IntKind.max,IntKind.bits,IntKind.signed];omega
theorem Qkh {x:Int}(h:fitI x)(d:Nat):Tryz.prog.keyLits (d+1) 3 [iv x]=some [.int .i64 x]:=by
 unfold Program.keyLits;rw[Tryz.underlying3];simp[Qdu h]
theorem Qhs (n:Qx)(h:fitN n):∃l,keyOf Tryz.prog NT (QEp n)=some l:=by
 obtain⟨a,b,c,d⟩:=n;obtain⟨h1,h2,h3,h4⟩:=h;obtain⟨k,hk⟩:∃k,Tryz.prog.types.size=k+1:=Nat.exists_eq_succ_of_ne_zero (Nat.ne_of_gt (Nat.lt_of_le_of_lt (Nat.zero_le _) Qqm));have e:Tryz.prog.keyLits (Tryz.prog.types.size+1) NT [iv a,iv b,iv c,iv d]=some [.int .i64 a,.int .i64 b,.int .i64 c,.int .i64 d]:=by
  rw[hk];unfold Program.keyLits;rw[Tryz.underlying108];simp[Qrj,QYq,Qkh h1,Qkh h2,Qkh h3,Qkh h4]
 refine⟨.string (keyBytes [.int .i64 a,.int .i64 b,.int .i64 c,.int .i64 d]),?_⟩;unfold keyOf QEp;rw[Tryz.underlying108];have hf:(Value.agg #[iv a,iv b,iv c,iv d]).formed Tryz.prog NT=true:=by
  unfold Value.formed;rw[Tryz.underlying108];simp[Qrj]
 simp only[Qgs,hf,Bool.and_self,if_true];show((Tryz.prog.keyLits (Tryz.prog.types.size+1) NT [iv a,iv b,iv c,iv d]).map fun ls=>Lit.string (keyBytes ls))=_;rw[e];rfl
noncomputable def QDp:KeyE Tryz.prog NT Qx where
 enc:=QEp
 ok:=fitN
 keyed:=Qgo
 of:=Qhs
 inj:=fun a b h=>by
  obtain⟨a1,a2,a3,a4⟩:=a
  obtain⟨b1,b2,b3,b4⟩:=b
  unfold QEp at h
  simp only[Value.agg.injEq] at h
  simpa using h
theorem Qkp:Tryz.prog.underlying 156=some (.map NT 3):=Tryz.underlying156
theorem zeroI (w:World):(zeroValue 3).run Tryz.prog w=.ok (.int .i64 0) w:=by kernel_rfl
def numN (N:List Qx)(n:Qx):Int:=if n∈N then idxI N n else 0
def NumM (w:World)(b n:Nat)(N:List Qx):Prop:=∃th,MapG QDp Qwo w b n (numN N) th
theorem NumM.below {w w':World}{b n:Nat}{l:List Qx}(h:NumM w b n l)(hb:Below w.heap.size w w'):NumM w' b n l:=by
 obtain⟨th,h⟩:=h;exact⟨th,h.below hb⟩
theorem NumM.lt {w:World}{b n:Nat}{l:List Qx}(h:NumM w b n l):b<w.heap.size:=by
 obtain⟨th,h⟩:=h;exact h.lt
theorem NumM.isMap {w:World}{b n:Nat}{l:List Qx}(h:NumM w b n l):∃es c,w.heap[b]? = some (.map es c):=by
 obtain⟨th,h⟩:=h;exact h.isMap
theorem NumM.block {w w':World}{b n:Nat}{l:List Qx}(h:NumM w b n l)(hb:w'.heap[b]? = w.heap[b]?):NumM w' b n l:=by
 obtain⟨th,h⟩:=h;exact⟨th,h.block hb⟩
theorem NumM.look {w:World}{b n:Nat}{l:List Qx}(h:NumM w b n l){x:Qx}(hx:fitN x):(Instr.lookup 156 (.map (some b)) (.agg #[iv x.kind,iv x.fn,iv x.bl,iv x.st]) false).run Tryz.prog w=.ok (.int .i64 (numN l x)) w:=by
 obtain⟨th,h⟩:=h;exact h.look Qkp (zeroI w) hx
theorem Qds (n:Qx):numN [] n=0:=by simp[numN]
theorem QJq {N:List Qx}{k:Nat}{x:Qx}(hx:N[k]? = some x)(hn:N.Nodup)(q:Qx):numN (N.take (k+1)) q=if q=x then (k:Int) else numN (N.take k) q:=by
 have ht:=Qgd hx;have e:N.take (k+1)=N.take k++[x]:=by rw[List.take_add_one,hx];rfl
 by_cases h:q=x
 ·subst h;rw[if_pos rfl];have hm:q∈N.take (k+1):=by rw[e];simp
  unfold numN;rw[if_pos hm];exact Qse (by rw[e,List.getElem?_append_right (by rw[ht.2];exact Nat.le_refl _),ht.2];simp) (by
   rw[e,List.take_append_of_le_length (by rw[ht.2];exact Nat.le_refl _),List.take_of_length_le (by rw[ht.2];exact Nat.le_refl _)];rw[ht.1] at hn;intro hm2;exact(List.nodup_append.1 hn).2.2 q hm2 q ZS rfl)
 ·rw[if_neg h];unfold numN;by_cases hm:q∈N.take k
  ·rw[if_pos (by rw[e];simp[hm]),if_pos hm];obtain⟨j,hj,hjx⟩:=Qgc hm;rw[hj];unfold idxI at hj ⊢;rw[if_pos hm] at hj;rw[if_pos (by rw[e];simp[hm]),e,List.idxOf_append,if_pos hm];exact hj
  ·rw[if_neg (by rw[e];simp[hm,h]),if_neg hm]
end
section
structure GrE (n:Nat)(E:List (Nat×Nat))(S P:List (List Int)):Prop where
 sl:S.length=n
 pl:P.length=n
 rng:∀e∈E,e.1<n∧e.2<n
 sn:∀(i:Nat) (r:List Int),S[i]? = some r→r.Nodup∧∀x:Int,x∈r↔∃j:Nat,x=j∧(i,j)∈E
 pn:∀(j:Nat) (r:List Int),P[j]? = some r→r.Nodup∧∀x:Int,x∈r↔∃i:Nat,x=i∧(i,j)∈E
theorem GrE.nil (n:Nat):GrE n [] (List.replicate n []) (List.replicate n []):=by
 refine⟨by simp,by simp,by simp,fun i r h=>?_,fun i r h=>?_⟩
 ·obtain rfl:r=[]:=List.eq_of_mem_replicate (List.mem_of_getElem? h);simp
 ·obtain rfl:r=[]:=List.eq_of_mem_replicate (List.mem_of_getElem? h);simp
theorem GrE.same {n:Nat}{E:List (Nat×Nat)}{S P:List (List Int)}(h:GrE n E S P){a b:Nat}{r:List Int}(hr:S[a]? = some r)(hb:(b:Int)∈r):GrE n (E++[(a,b)]) S P:=by
 have hin:(a,b)∈E:=by
  obtain⟨j,hj,hm⟩:=((h.sn a r hr).2 b).1 hb;obtain rfl:b=j:=by omega
  exact hm
 have hmem:∀e:Nat×Nat,e∈E++[(a,b)]↔e∈E:=fun e=>by
  constructor
  ·intro he;rcases List.mem_append.1 he with he|he
   ·exact he
   ·obtain rfl:e=(a,b):=by simpa using he
    exact hin
  ·exact fun he=>List.mem_append.2 (.inl he)
 refine⟨h.sl,h.pl,fun e he=>h.rng e ((hmem e).1 he),fun i r hr=>⟨(h.sn i r hr).1,fun x=>?_⟩,fun i r hr=>⟨(h.pn i r hr).1,fun x=>?_⟩⟩
 ·rw[(h.sn i r hr).2 x];exact⟨fun ⟨j,e,m⟩=>⟨j,e,(hmem _).2 m⟩,fun ⟨j,e,m⟩=>⟨j,e,(hmem _).1 m⟩⟩
 ·rw[(h.pn i r hr).2 x];exact⟨fun ⟨j,e,m⟩=>⟨j,e,(hmem _).2 m⟩,fun ⟨j,e,m⟩=>⟨j,e,(hmem _).1 m⟩⟩
theorem GrE.add {n:Nat}{E:List (Nat×Nat)}{S P:List (List Int)}(h:GrE n E S P){a b:Nat}(ha:a<n)(hbn:b<n){r q:List Int}(hr:S[a]? = some r)(hq:P[b]? = some q)(hb:(b:Int)∉r):GrE n (E++[(a,b)]) (S.set a (r++[(b:Int)])) (P.set b (q++[(a:Int)])):=by
 have hnin:(a,b)∉E:=fun hm=>hb (((h.sn a r hr).2 b).2 ⟨b,rfl,hm⟩)
 refine⟨by simp[h.sl],by simp[h.pl],fun e he=>?_,fun i s hs=>?_,fun j s hs=>?_⟩
 ·rcases List.mem_append.1 he with he|he
  ·exact h.rng e he
  ·obtain rfl:e=(a,b):=by simpa using he
   exact⟨ha,hbn⟩
 ·by_cases hi:a=i
  ·subst hi;rw[List.getElem?_set_self (by rw[h.sl];exact ha)] at hs;injection hs with hs
   subst hs;obtain⟨h1,h2⟩:=h.sn a r hr;refine⟨List.nodup_append.2 ⟨h1,by simp,fun x hx y hy e=>?_⟩,fun x=>?_⟩
   ·simp at hy;subst hy;exact hb (e▸hx)
   ·rw[List.mem_append,h2 x];constructor
    ·rintro(⟨j,e,m⟩|hx)
     ·exact⟨j,e,List.mem_append.2 (.inl m)⟩
     ·exact⟨b,by simpa using hx,by simp⟩
    ·rintro⟨j,e,m⟩;rcases List.mem_append.1 m with m|m
     ·exact .inl ⟨j,e,m⟩
     ·simp at m;subst m;exact .inr (by simp[e])
  ·rw[List.getElem?_set_ne hi] at hs;obtain⟨h1,h2⟩:=h.sn i s hs;refine⟨h1,fun x=>?_⟩;rw[h2 x];constructor
   ·rintro⟨j,e,m⟩;exact⟨j,e,List.mem_append.2 (.inl m)⟩
   ·rintro⟨j,e,m⟩;rcases List.mem_append.1 m with m|m
    ·exact⟨j,e,m⟩
    ·simp at m;exact absurd m.1.symm hi
 ·by_cases hj:b=j
  ·subst hj;rw[List.getElem?_set_self (by rw[h.pl];exact hbn)] at hs;injection hs with hs
   subst hs;obtain⟨h1,h2⟩:=h.pn b q hq;refine⟨List.nodup_append.2 ⟨h1,by simp,fun x hx y hy e=>?_⟩,fun x=>?_⟩
   ·simp at hy;subst hy;subst e;obtain⟨i,e,m⟩:=(h2 _).1 hx;obtain rfl:a=i:=by omega
    exact hnin m
   ·rw[List.mem_append,h2 x];constructor
    ·rintro(⟨j,e,m⟩|hx)
     ·exact⟨j,e,List.mem_append.2 (.inl m)⟩
     ·exact⟨a,by simpa using hx,by simp⟩
    ·rintro⟨j,e,m⟩;rcases List.mem_append.1 m with m|m
     ·exact .inl ⟨j,e,m⟩
     ·simp at m;subst m;exact .inr (by simp[e])
  ·rw[List.getElem?_set_ne hj] at hs;obtain⟨h1,h2⟩:=h.pn j s hs;refine⟨h1,fun x=>?_⟩;rw[h2 x];constructor
   ·rintro⟨i,e,m⟩;exact⟨i,e,List.mem_append.2 (.inl m)⟩
   ·rintro⟨i,e,m⟩;rcases List.mem_append.1 m with m|m
    ·exact⟨i,e,m⟩
    ·simp at m;exact absurd m.2.symm hj
theorem GrE.slen {n:Nat}{E:List (Nat×Nat)}{S P:List (List Int)}(h:GrE n E S P){i:Nat}{r:List Int}(hr:S[i]? = some r):r.length≤n:=by
 obtain⟨h1,h2⟩:=h.sn i r hr;have:=QGf (b:=(List.range n).map fun k:Nat=>(k:Int)) h1 fun x hx=>by
  obtain⟨j,rfl,m⟩:=(h2 x).1 hx;exact List.mem_map.2 ⟨j,List.mem_range.2 (h.rng _ m).2,rfl⟩
 simpa using this
theorem GrE.plen {n:Nat}{E:List (Nat×Nat)}{S P:List (List Int)}(h:GrE n E S P){i:Nat}{r:List Int}(hr:P[i]? = some r):r.length≤n:=by
 obtain⟨h1,h2⟩:=h.pn i r hr;have:=QGf (b:=(List.range n).map fun k:Nat=>(k:Int)) h1 fun x hx=>by
  obtain⟨j,rfl,m⟩:=(h2 x).1 hx;exact List.mem_map.2 ⟨j,List.mem_range.2 (h.rng _ m).1,rfl⟩
 simpa using this
end
section
open Go.RowKit
variable [Base]
theorem int0 (n:Nat):(((n:Nat):Int)==0)=decide (n=0):=by
 rw[Bool.eq_iff_iff];simp
theorem Qfm {P:Program}{f:FuncId}{args:Array Value}{w:World}{a n:Nat}{v:Value}(h:Calls P f args (w.drewN (a+n)) fun e w'=>e=.returned v∧w'=w.drewN (a+n)):Calls P f args (w.drewN (a+n)) fun e w'=>e=.returned v∧∃m,w'=w.drewN (a+m):=
 h.mono fun _ _ hh=>⟨hh.1,n,hh.2⟩
theorem QYd {n:Int}{b:Bool}(h:QEa n=b)(w:World):Calls Tryz.prog 116 #[.int .i64 n] w fun e w'=>e=.returned (.bool b)∧w'=w:=h▸QYn n w
theorem QOj (s:QSet)(u:Value)(w:World)(h:Qi w u s.words):Calls Tryz.prog 90 #[setV s u] w (Qia (setB s) w):=by
 obtain⟨a,c,rfl,hm,hc,hcm,hk⟩:=h.cell;obtain⟨n,hn⟩:=Ze s.words.length;obtain⟨W,hW⟩:=Ze (w.alloc (.cells #[.int .i64 s.width,.slice a n c] 52));have B0:Below w.heap.size w W:=by rw[←hW];exact Zb
 have HB0:W.heap[w.heap.size]? = some (.cells #[.int .i64 s.width,.slice a n c] 52 (0,0)):=by rw[←hW];exact heap_alloc_new _ _
 have x0:=(Qa HB0).1 0;have x1:=(Qa HB0).1 1;simp at x0 x1;rw[hn] at hm hc ⊢;by_cases h1:QEa s.width=true
 ·have hr:0≤s.width∧s.width≤256:=by simpa [QEa] using h1
  obtain⟨hr0,hr1⟩:=hr;by_cases h2:QId s=true
  ·by_cases h3:s.width % 64=0
   ·have d2:((n:Int) !=(s.width+63) / 64)=false:=by simpa [QId,hn] using h2
    have hv:setB s=true:=by unfold setB Qli;rw[h1,h2];simp[h3]
    rw[hv];have HW:=Zh hW;have BB:=Zh B0;have ht:s.width.tmod 64=0:=by rw[Int.tmod_eq_emod_of_nonneg hr0];exact h3
    clear hW HB0 hk B0 h;go_enter Tryz.func90,Tryz.ntmps90;go_wp2_with fail;rw[show w.alloc (.cells #[.int .i64 s.width,.slice a n c] 52)=W from HW.o];go_quiet (first|(go_at_call 116;exact Calls.quiet_of_same (QYd h1 _))|(go_at_call 117;exact Calls.quiet_of_same (QLf s.width hr0 hr1 _)));go_wp2;go_quiet (fail);go_wp2;go_ret;exact⟨rfl,BB.o.trans (Qp (Qp (Below.refl _ _) _) _)⟩
   ·have d2:((n:Int) !=(s.width+63) / 64)=false:=by simpa [QId,hn] using h2
    have he:(n:Int)=(s.width+63) / 64:=by simpa [QId,hn] using h2
    have hpos:0<n:=by omega
    obtain⟨x,hx⟩:∃x,s.words[n-1]? = some x:=⟨s.words[n-1],List.getElem?_eq_getElem ZO⟩;obtain⟨b,off,rfl,hb,-,hcell⟩:=hk (n-1) x hx;have hxl:x<18446744073709551616:=h.2 x (List.mem_of_getElem? hx);have hlast:s.words.getLastD 0=x:=by
     rw[List.getLastD_eq_getLast?,List.getLast?_eq_getElem?,hn,hx];rfl
    have hr:(s.width % 64).toNat<64:=by omega
    have hand:bits .and .u64 (x:Int) ((18446744073709551616-2 ^ (s.width % 64).toNat:Nat):Int)=((x &&& (18446744073709551616-2 ^ (s.width % 64).toNat):Nat):Int):=QBl _ _ hxl (by have:=Nat.two_pow_pos (s.width % 64).toNat;omega);obtain⟨V,hV⟩:∃V:Nat,18446744073709551616-2 ^ (s.width % 64).toNat=V:=⟨_,rfl⟩;have hv:setB s=decide ((x &&& V:Nat)=0):=by
     unfold setB Qli;rw[h1,h2,hlast,←hV];simp only[h3,decide_false,Bool.true_and,Bool.false_or]
     congr 1
     exact propext (Qxr x _ hxl ZO).symm
    have SP:=fun w=>Qoq s.width hr0 hr1 w
    rw[hV] at hand SP;rw[hv];have HW:=Zh hW;have BB:=Zh B0;have SPH:=Zh SP;have ht:s.width.tmod 64=s.width % 64:=Int.tmod_eq_emod_of_nonneg hr0;have ht2:(s.width % 64==0)=false:=by simpa using h3
    have e1:IntKind.i64.wrap ((n:Int)-1)=(n:Int)-1:=IntWalk.i64_in _ (by unfold maxLen at hm;omega);have e2:0≤(n:Int)-1:=by omega
    have e4:(n:Int)-1<n:=by omega
    have e3:((n:Int)-1).toNat=n-1:=by omega
    have hcW:W.cell? ⟨b,off+(n-1),none⟩=some (uv x):=by rw[←hcell];exact B0.cell (p:=⟨b,off+(n-1),none⟩) hb
    have bt:bits .and .u64 (x:Int) (V:Int)=((x &&& V:Nat):Int):=hand;clear hW HB0 hk B0 h SP hand hV hlast hx hxl hcell hv hr he;go_enter Tryz.func90,Tryz.ntmps90;go_wp2_with fail;rw[show w.alloc (.cells #[.int .i64 s.width,.slice (some ⟨b,off,none⟩) n c] 52)=W from HW.o];go_quiet (first|(go_at_call 116;exact Calls.quiet_of_same (QYd h1 _))|(go_at_call 117;exact Calls.quiet_of_same (QLf s.width hr0 hr1 _)));go_wp2;go_quiet ((go_at_call 150;first|exact Qfm (SPH.o _)|exact Calls.quiet_of_same (SPH.o _)));go_wp2;go_ret;exact⟨Qyb (int0 _),BB.o.trans (Qp (Qp (Below.refl _ _) _) _)⟩
  ·have d2:((n:Int) !=(s.width+63) / 64)=true:=by simpa [QId,hn] using h2
   have hv:setB s=false:=by unfold setB;rw[h1];simp[h2]
   rw[hv];have HW:=Zh hW;have BB:=Zh B0;clear hW HB0 hk B0 h;go_enter Tryz.func90,Tryz.ntmps90;go_wp2_with fail;rw[show w.alloc (.cells #[.int .i64 s.width,.slice a n c] 52)=W from HW.o];go_quiet (first|(go_at_call 116;exact Calls.quiet_of_same (QYd h1 _))|(go_at_call 117;exact Calls.quiet_of_same (QLf s.width hr0 hr1 _)));go_wp2;go_ret;exact⟨rfl,BB.o.trans (Qp (Below.refl _ _) _)⟩
 ·have h1':QEa s.width=false:=by simpa using h1
  have hv:setB s=false:=by unfold setB;rw[h1'];rfl
  rw[hv];have HW:=Zh hW;have BB:=Zh B0;clear hW HB0 hk B0 h;go_enter Tryz.func90,Tryz.ntmps90;go_wp2_with fail;rw[show w.alloc (.cells #[.int .i64 s.width,.slice a n c] 52)=W from HW.o];go_quiet ((go_at_call 116;exact Calls.quiet_of_same (QYd h1' _)));go_wp2;go_ret;exact⟨rfl,BB.o.trans (Qp (Below.refl _ _) _)⟩
end
section
open Go.RowKit
variable [Base]
theorem Qnt (x k idx:Nat)(w:World)(hx0:((x:Int)==0)=false)(key:IntKind.u64.wrap (bits BinOp.and IntKind.u64 (x:Int) (IntKind.u64.wrap (-(x:Int)))*285870213051353865) / 288230376151711744=(idx:Int))(hi:idx<64)(hk:k<64)(hcell:w.cell? ⟨1,idx,none⟩=some (.int .u8 k)):
  Calls Tryz.prog 182 #[.int .u64 x] w fun e w'=>e=.returned (.int .i64 k)∧w=w':=by
 go_enter Tryz.func182,Tryz.ntmps182;go_wp2_with (simp only[key]);go_ret;exact⟨rfl,rfl⟩
theorem Qeu (x:Nat)(hx0:x≠0)(hx:x<18446744073709551616)(w:World)(hT:TabAt 1 Lib.deBruijn64tab w):
  Calls Tryz.prog 182 #[.int .u64 x] w fun e w'=>e=.returned (.int .i64 (Lib.ctz 64 x:Nat))∧w=w':=by
 obtain⟨hlow,hk⟩:=Lib.lowest_bit 64 x hx0 hx;obtain⟨hi,htab⟩:=Lib.deBruijn64_at _ hk;have hcell:=hT _ hi;rw[htab] at hcell;exact Qnt x _ _ w (by simp;omega) (tz64_key x _ hx hx0 hlow) hi hk hcell
theorem Qai (c:Nat)(hc:c<9223372036854775808):bits .and .i64 (c:Int) 127=((c % 128:Nat):Int):=by
 have h1:(BitVec.ofInt 64 (c:Int)).toNat=c:=by
  rw[BitVec.ofInt_natCast,BitVec.toNat_ofNat];exact Nat.mod_eq_of_lt ZO
 show IntKind.i64.wrap ((BitVec.ofInt 64 (c:Int) &&& BitVec.ofInt 64 (127:Int)).toNat:Int)=_;rw[BitVec.toNat_and,h1,show(BitVec.ofInt 64 (127:Int)).toNat=2 ^ 7-1 from by decide,Nat.and_two_pow_sub_one_eq_mod,IntWalk.i64_in _ ZO]
theorem ones1 (x:Nat)(hx:x<18446744073709551616):IntKind.u64.wrap (bits BinOp.and IntKind.u64 ((x:Int) / 2) 6148914691236517205+bits BinOp.and IntKind.u64 (x:Int) 6148914691236517205)=((A1 8 x:Nat):Int):=by
 have h1:(x:Int) / 2=((x / 2:Nat):Int):=by omega
 have l1:x / 2 &&& 6148914691236517205≤6148914691236517205:=Nat.and_le_right;have l2:x &&& 6148914691236517205≤6148914691236517205:=Nat.and_le_right;rw[h1,show(6148914691236517205:Int)=((6148914691236517205:Nat):Int) from rfl,bits_and_u64_nat _ _ ZO ZO,bits_and_u64_nat _ _ hx ZO,IntKind.wrap_u64];unfold A1;rw[show repB 8 85=6148914691236517205 from by decide];omega
theorem ones2 (x:Nat)(hx:x<18446744073709551616):IntKind.u64.wrap (bits BinOp.and IntKind.u64 ((x:Int) / 4) 3689348814741910323+bits BinOp.and IntKind.u64 (x:Int) 3689348814741910323)=((A2 8 x:Nat):Int):=by
 have h1:(x:Int) / 4=((x / 4:Nat):Int):=by omega
 have l1:x / 4 &&& 3689348814741910323≤3689348814741910323:=Nat.and_le_right;have l2:x &&& 3689348814741910323≤3689348814741910323:=Nat.and_le_right;rw[h1,show(3689348814741910323:Int)=((3689348814741910323:Nat):Int) from rfl,bits_and_u64_nat _ _ ZO ZO,bits_and_u64_nat _ _ hx ZO,IntKind.wrap_u64];unfold A2;rw[show repB 8 51=3689348814741910323 from by decide];omega
theorem ones3 (x:Nat)(hx:x≤7378697629483820646):bits BinOp.and IntKind.u64 (IntKind.u64.wrap ((x:Int) / 16+(x:Int))) 1085102592571150095=((A3 8 x:Nat):Int):=by
 have h1:IntKind.u64.wrap ((x:Int) / 16+(x:Int))=((x / 16+x:Nat):Int):=by rw[IntKind.wrap_u64];omega
 rw[h1,show(1085102592571150095:Int)=((1085102592571150095:Nat):Int) from rfl,bits_and_u64_nat _ _ ZO ZO];unfold A3;rw[show repB 8 15=1085102592571150095 from by decide]
theorem A1_lt (x:Nat):A1 8 x<18446744073709551616:=by
 have l1:x / 2 &&& 6148914691236517205≤6148914691236517205:=Nat.and_le_right;have l2:x &&& 6148914691236517205≤6148914691236517205:=Nat.and_le_right;unfold A1;rw[show repB 8 85=6148914691236517205 from by decide];omega
theorem A2_le (x:Nat):A2 8 x≤7378697629483820646:=by
 have l1:x / 4 &&& 3689348814741910323≤3689348814741910323:=Nat.and_le_right;have l2:x &&& 3689348814741910323≤3689348814741910323:=Nat.and_le_right;unfold A2;rw[show repB 8 51=3689348814741910323 from by decide];omega
theorem A3_le (x:Nat):A3 8 x≤1085102592571150095:=by
 unfold A3;rw[show repB 8 15=1085102592571150095 from by decide];exact Nat.and_le_right
theorem ones4 (x:Nat)(hx:x≤1085102592571150095):bits BinOp.and IntKind.i64 (wrap64 (IntKind.u64.wrap (IntKind.u64.wrap (IntKind.u64.wrap ((x:Int)+(x:Int) / 256)+IntKind.u64.wrap ((x:Int)+(x:Int) / 256) / 65536)+IntKind.u64.wrap (IntKind.u64.wrap ((x:Int)+(x:Int) / 256)+IntKind.u64.wrap ((x:Int)+(x:Int) / 256) / 65536) / 4294967296))) 127=((QFk x:Nat):Int):=by
 have h1:IntKind.u64.wrap ((x:Int)+(x:Int) / 256)=((x+x / 256:Nat):Int):=by rw[IntKind.wrap_u64];omega
 rw[h1];obtain⟨y,hy⟩:=Ze (x+x / 256);have yl:y≤1089341274573381300:=by omega
 rw[hy];have h2:IntKind.u64.wrap ((y:Int)+(y:Int) / 65536)=((y+y / 65536:Nat):Int):=by rw[IntKind.wrap_u64];omega
 rw[h2];obtain⟨z,hz⟩:=Ze (y+y / 65536);have zl:z≤1089357896609000000:=by omega
 rw[hz];have h3:IntKind.u64.wrap ((z:Int)+(z:Int) / 4294967296)=((z+z / 4294967296:Nat):Int):=by rw[IntKind.wrap_u64];omega
 rw[h3,IntWalk.wrap64_in _ ZO,Qai _ ZO];unfold QFk;dsimp only;rw[hy,hz]
theorem QYr (x:Nat)(hx:x<18446744073709551616)(w:World):
  Calls Tryz.prog 153 #[.int .u64 x] w fun e w'=>e=.returned (.int .i64 (pop 64 x:Nat))∧w=w':=by
 go_enter Tryz.func153,Tryz.ntmps153;go_wp2_with fail;go_ret;refine⟨?_,rfl⟩;simp only[Array.getD_eq_getD_getElem?,List.getElem?_toArray,List.getElem?_cons_zero,List.getElem?_cons_succ,Option.getD_some];rw[ones1 x hx,ones2 _ (A1_lt x),ones3 _ (A2_le _),ones4 _ (A3_le _),Qyt x hx]
end
section
variable [Base]
def memS (s:QSet):List Nat:=if setB s=true then (List.range s.width.toNat).filter (QE s.words) else []
def Qjg (w:Nat):List Nat:=(List.range 64).filter (w.testBit ·)
def Qcd (l:List Nat)(k:Nat):List Nat:=(List.range (64*k)).filter (QE l)
theorem Qwj {l:List Nat}{k w:Nat}(h:l[k]? = some w):Qcd l (k+1)=Qcd l k++(Qjg w).map (64*k + ·):=by
 unfold Qcd Qjg;rw[show 64*(k+1)=64*k+64 by omega,List.range_add,List.filter_append,List.filter_map]
 congr 2
 apply List.filter_congr;intro i hi;have hi:=List.mem_range.1 hi;simp only[Function.comp];unfold QE;rw[show(64*k+i) / 64=k by omega,show(64*k+i) % 64=i by omega,List.getD_eq_getElem?_getD,h];rfl
theorem Qyk {s:QSet}(h:setB s=true)(hw:QLa s.words):Qcd s.words s.words.length=memS s:=by
 have hf:=QBa h hw;obtain⟨m,e1,e2,e3⟩:=Qka hf;unfold memS Qcd;rw[if_pos h,e1,Int.toNat_natCast];have hle:m≤64*s.words.length:=by rw[e3];unfold Qj;omega
 obtain⟨d,hd⟩:∃d,64*s.words.length=m+d:=⟨64*s.words.length-m,by omega⟩;rw[hd,List.range_add,List.filter_append];have:List.filter (QE s.words) (List.map (m + ·) (List.range d))=[]:=by
  rw[List.filter_eq_nil_iff];intro x hx;obtain⟨i,_,rfl⟩:=List.mem_map.1 hx;rw[Qge h hw (b:=m+i) (by rw[e1];omega)];simp
 rw[this,List.append_nil]
theorem QGp {s:QSet}(h:setB s=false):memS s=[]:=by unfold memS;rw[h];rfl
theorem Qxp:∀(n x:Nat),pop n x=((List.range n).filter (x.testBit ·)).length
|0,x=>rfl
|n+1,x=>by
  rw[QXe,List.range_succ_eq_map,List.filter_cons,Qxp n (x / 2),List.filter_map]
  have e:((fun i=>x.testBit i) ∘ Nat.succ)=fun i=>(x / 2).testBit i:=by
   funext i
   exact Nat.testBit_succ x i
  rw[e];rcases Nat.mod_two_eq_zero_or_one x with h|h
  ·rw[show x.testBit 0=false by rw[Nat.testBit_zero];simp[h]];simp[h]
  ·rw[show x.testBit 0=true by rw[Nat.testBit_zero];simp[h]];simp[h];omega
theorem QRk (x:Nat):(Qjg x).length=pop 64 x:=(Qxp 64 x).symm
theorem Qap:Qjg 0=[]:=by decide
theorem Qzi {p q:Nat→Bool}{k:Nat}(hk:p k=true)(hp:∀j,j<k→p j=false)(hq:∀j,j≤k→q j=false)(he:∀j,k<j→p j=q j):∀n,(n≤k→(List.range n).filter p=[])∧(n≤k+1→(List.range n).filter q=[])∧(k<n→(List.range n).filter p=k::(List.range n).filter q)
|0=>⟨fun _=>rfl,fun _=>rfl,fun h=>by omega⟩
|n+1=>by
  obtain⟨h1,h2,h3⟩:=Qzi hk hp hq he n
  refine⟨fun h=>?_,fun h=>?_,fun h=>?_⟩
  ·rw[List.range_succ,List.filter_append,h1 ZO,List.filter_cons,hp n ZO];rfl
  ·rw[List.range_succ,List.filter_append,h2 ZO,List.filter_cons,hq n ZO];rfl
  ·rw[List.range_succ,List.filter_append,List.filter_append]
   by_cases hn:n=k
   ·subst hn
    rw[h1 (Nat.le_refl _),h2 ZO,List.filter_cons,List.filter_cons,hk,hq n (Nat.le_refl _)]
    rfl
   ·rw[h3 ZO,List.filter_cons,List.filter_cons,he n ZO]
    rfl
theorem Qbp {w:Nat}(h0:w≠0)(hw:w<18446744073709551616):Lib.ctz 64 w<64∧Qjg w=Lib.ctz 64 w::Qjg (w &&& (w-1)):=by
 obtain⟨m,hm,hk⟩:=Lib.ctzFrom_spec 64 w ZO hw;have hc:Lib.ctz 64 w=Lib.ctzFrom 64 w:=by unfold Lib.ctz;rw[if_neg h0]
 rw[hc];generalize Lib.ctzFrom 64 w=k at *;have hp:0<2 ^ k:=Nat.two_pow_pos k;have hwd:w / 2 ^ k=2*m+1:=by rw[hm,Nat.mul_div_cancel_left _ hp]
 have hw1:(w-1) / 2 ^ k=2*m:=by
  rw[hm];have e:2 ^ k*(2*m+1)-1=(2 ^ k-1)+2 ^ k*(2*m):=by
   rw[Nat.mul_add,Nat.mul_one];omega
  rw[e,Nat.add_mul_div_left _ _ hp,Nat.div_eq_of_lt ZO,Nat.zero_add]
 have hlow:∀j,j<k→w.testBit j=false:=by
  intro j hj;obtain⟨d,rfl⟩:∃d,k=j+(d+1):=⟨k-j-1,by omega⟩;rw[hm,Nat.testBit_eq_decide_div_mod_eq,Nat.pow_add,Nat.mul_assoc,Nat.mul_div_cancel_left _ (Nat.two_pow_pos j),Nat.pow_succ];have:2 ^ d*2*(2*m+1) % 2=0:=by
   rw[Nat.mul_comm (2 ^ d) 2,Nat.mul_assoc];exact Nat.mul_mod_right _ _
  rw[this];rfl
 have hbit:w.testBit k=true:=by
  rw[Nat.testBit_eq_decide_div_mod_eq,hwd];simp
 have hhigh:∀(x y:Nat),x / 2 ^ k=y→∀j,k≤j→x.testBit j=y.testBit (j-k):=by
  intro x y hxy j hj;rw[←hxy,Nat.testBit_div_two_pow]
  congr 1
  omega
 have hq:∀j,j≤k→(w &&& (w-1)).testBit j=false:=by
  intro j hj;rw[Nat.testBit_and];rcases Nat.lt_or_ge j k with h1|h1
  ·rw[hlow j h1];rfl
  ·obtain rfl:j=k:=by omega
   rw[hhigh _ _ hw1 j (Nat.le_refl _),Nat.sub_self,Nat.testBit_zero];simp
 have he:∀j,k<j→w.testBit j=(w &&& (w-1)).testBit j:=by
  intro j hj;rw[Nat.testBit_and,hhigh _ _ hw1 j ZO,hhigh _ _ hwd j ZO];obtain⟨d,hd⟩:∃d,j-k=d+1:=⟨j-k-1,by omega⟩;rw[hd,Nat.testBit_succ,Nat.testBit_succ,show(2*m+1) / 2=m by omega,show 2*m / 2=m by omega,Bool.and_self]
 exact⟨hk,(Qzi hbit hlow hq he 64).2.2 hk⟩
theorem QNs {w:Nat}(h0:w≠0):w &&& (w-1)<w:=Nat.lt_of_le_of_lt Nat.and_le_right ZO
theorem QQf (l:List Nat)(k:Nat):(Qcd l k).length≤64*k:=by
 unfold Qcd;have:=List.length_filter_le (QE l) (List.range (64*k))
 simpa using this
theorem QUs (w:Nat):(Qjg w).length≤64:=by
 unfold Qjg;have:=List.length_filter_le (w.testBit ·) (List.range 64)
 simpa using this
end
section
open Go.RowKit
variable [Base]
structure ButB (g:Nat)(w w':World):Prop where
 os:w'.os=w.os
 tape:w'.tape=w.tape
 output:w'.output=w.output
 size:w.heap.size≤w'.heap.size
 block:∀k,k<w.heap.size→k≠g→w'.heap[k]? = w.heap[k]?
theorem ButB.toBelow {B g:Nat}{w w':World}(h:ButB g w w')(hB:B≤g)(hw:B≤w.heap.size):Below B w w':=
 ⟨h.os,h.tape,h.output,h.size,fun k hk=>h.block k ZO ZO⟩
theorem QEi {P:Program}{w:World}{ops:Array Oper}{rest:List Oper}{o:Oper}{a:Act}{Q:Exit→Act→World→Prop}(hgd:o.guard=none)(d s:Operand)(dT sT:TypeId)(ho:o.op=.call { callee:=.builtin .copy,args:=#[d,s],argTypes:=#[dT,sT] })(elem:TypeId)(hu:P.underlying dT=some (.slice elem))(hsz:(P.info? elem).map (·.size)=some 1)(g dLen dCap:Nat)(ad:Addr)(sLen sCap:Nat)(hd:a.eval d=.slice (some ⟨g,0,none⟩) dLen dCap)(hs:a.eval s=.slice (some ad) sLen sCap)(cur:Array Value)(t:TypeId)(hg:w.heap[g]? = some (.cells cur t (0,0)))(cs:List Value)(hn:cs.length=Nat.min sLen dLen)(hsrc:∀j v,cs[j]? = some v→w.cell? (ad.add j)=some v)(hfit:cs.length=cur.size)(h1:∀v∈cs,v.oneCell'=true)(h:∀w',w'.heap[g]? = some (.cells cs.toArray t (0,0))→ButB g w w'→wpList P ops Q rest (a.put o.dst (goInt cs.length)) w'):wpList P ops Q (o::rest) a w:=by
 refine wpList_copy_own hgd d s dT sT ho elem hu hsz g 0 dLen dCap ad sLen sCap hd hs cur t hg cs hn hsrc ZO h1 ?_;have e:(cur.toList.take 0++(cs++cur.toList.drop (0+cs.length))).toArray=cs.toArray:=by
  simp[hfit]
 rw[e];exact h _ (setRow_heap w g cur _ t _ hg) ⟨rfl,rfl,rfl,by simp,fun k _ hk=>setRow_other w g k _ hk⟩
end
section
open Go.RowKit
variable [Base]
theorem QUt (m:Nat):zc (Qj m)=((Qy m).words.map uv).toArray:=by unfold zc Qy;simp
theorem Qjc (m:Nat)(hm:m≤256)(w:World):Calls Tryz.prog 53 #[.int .i64 m] w (Qht (Qy m) w):=by
 have hmk:=QTd (Qj m) (by unfold Qj;omega) (((m:Int)+63) / 64) (by unfold Qj;omega);have HF:=Zh (QZb hm);have HZ:=Zh (QUt m);go_enter Tryz.func53,Tryz.ntmps53;go_wp2;refine bodyPost_ret (v:=setV (Qy m) (.slice (some ⟨w.heap.size+1,0,none⟩) (Qy m).words.length (Qy m).words.length)) (by simp[results,Tryz.results53,go_sem,Qy]) rfl ⟨_,rfl,⟨w.heap.size+1,rfl,by omega,?_,HF.o⟩,(Zb).alloc ZS _⟩;rw[←HZ.o];exact Qda _ _
theorem QAr (l:List Nat):∀x∈l.map uv,x.oneCell'=true:=by
 intro x hx;obtain⟨y,_,rfl⟩:=List.mem_map.1 hx;rfl
theorem Qzo:(Tryz.prog.info? 139).map (·.size)=some 1:=by kernel_rfl
theorem Qvp (s:QSet)(b:Nat)(u:Value)(w:World)(hf:QUb s)(hb:(b:Int)<s.width)(hu:Qi w u s.words):Calls Tryz.prog 58 #[setV s u,.int .i64 b] w (Qht (putS s b) w):=by
 obtain⟨m,hm,hm2,hk⟩:=Qka hf;obtain⟨ua,uc,rfl,-,-,-,hcell⟩:=hu.cell;obtain⟨k,hk2⟩:=Ze s.words.length;have hbk:b / 64<k:=by rw[←hk2,hk];unfold Qj;omega
 have hkk:k=Qj m:=by omega
 have hm3:m≤64*k:=by rw[hkk];unfold Qj;omega
 have hk5:k≤4:=by rw[hkk];unfold Qj;omega
 rw[hk2] at hu ⊢;rw[hm] at hb;rw[show setV s (.slice ua k uc)=.agg #[.int .i64 (m:Int),.slice ua k uc] from by unfold setV;rw[hm]];obtain⟨W,hW⟩:=Ze ((w.alloc (.cells #[.int .i64 (m:Int),.slice ua k uc] 52)).alloc (.cells #[.int .i64 0,.slice none 0 0] 52));have B0:Below w.heap.size w W:=by rw[←hW];exact(Zb).alloc ZS _
 have HB1:W.heap[w.heap.size]? = some (.cells #[.int .i64 (m:Int),.slice ua k uc] 52 (0,0)):=by rw[←hW];exact Qz _ (heap_alloc_new _ _)
 have HB2:W.heap[w.heap.size+1]? = some (.cells #[.int .i64 0,.slice none 0 0] 52 (0,0)):=by rw[←hW];exact Qda _ _
 have H1:=Zh HB1;have H2:=Zh HB2;have HW:=Zh hW;have BB:=Zh B0;have HU:=Zh hu;have HF:=Zh hf;have HK:=Zh hk2;have HM:=Zh hm;have HC:=Zh hcell;have HKK:=Zh hkk;clear hW HB1 HB2 B0 hk hk2 hkk hf hu hcell hm;go_enter Tryz.func58,Tryz.ntmps58;go_wp2_with fail;rw[show(w.alloc (.cells #[.int .i64 (m:Int),.slice ua k uc] 52)).alloc (.cells #[.int .i64 0,.slice none 0 0] 52)=W from HW.o];refine(Qjc m hm2 W).mono ?_;rintro e v ⟨u1,rfl,⟨g,rfl,hg1,hg2,-⟩,b1⟩;have L1:=Qc H1.o b1 (Qb H1.o);have L2:=Qc H2.o b1 (Qb H2.o);have hz1:=Nat.lt_of_lt_of_le (Qb H1.o) b1.size;have hz2:=Nat.lt_of_lt_of_le (Qb H2.o) b1.size;have hgv:=Qb hg2;have e1:(Qy m).words.length=k:=by have:=HKK.o;unfold Qy;simp;omega
 rw[show setV (Qy m) (.slice (some ⟨g,0,none⟩) (Qy m).words.length (Qy m).words.length)=.agg #[.int .i64 (m:Int),.slice (some ⟨g,0,none⟩) k k] from by rw[e1];rfl];obtain⟨V,hV⟩:=Ze (v.alloc (.cells #[.int .i64 (m:Int),.slice (some ⟨g,0,none⟩) k k] 52));have BV:Below v.heap.size v V:=by rw[←hV];exact Zb
 have L3:V.heap[v.heap.size]? = some (.cells #[.int .i64 (m:Int),.slice (some ⟨g,0,none⟩) k k] 52 (0,0)):=by rw[←hV];exact heap_alloc_new _ _
 have HG:=Zh (Qc hg2 BV hgv);have x0:=(Qa L1).1 0;have x1:=(Qa L1).1 1;simp only[Zx,Zy,Zz] at x0 x1;have L1:=Qc L1 BV hz1;have L2:=Qc L2 BV hz2;have B1:=Zh (b1.trans (BV.mono b1.size));have HV:=Zh hV;have HL1:=Zh L1;have HL2:=Zh L2;have HL3:=Zh L3;have E1:=Zh e1;obtain⟨x,hx⟩:∃x,s.words[b / 64]? = some x:=⟨_,List.getElem?_eq_getElem (show b / 64<s.words.length by have:=HK.o;omega)⟩;obtain⟨b0,o0,rfl,-,-,-⟩:=HC.o _ _ hx;have SRC:=Zh (show ∀j x,(s.words.map uv)[j]? = some x→V.cell? ((⟨b0,o0,none⟩:Addr).add j)=some x from by
  intro j x hx;rw[List.getElem?_map] at hx;obtain⟨y,hy,rfl⟩:=Option.map_eq_some_iff.1 hx;obtain⟨b3,o3,e3,hb3,-,hc3⟩:=HC.o j y hy;injection e3 with e3
  injection e3 with e3 e4
  subst e3 e4;rw[Qun];exact((BB.o.trans (B1.o.mono BB.o.size)).cell (p:=⟨b0,o0+j,none⟩) hb3).trans hc3)
 have OC:=Zh (QAr s.words);have LN1:=Zh (show(s.words.map uv).length=Nat.min k k by rw[List.length_map,HK.o];simp);have LN2:=Zh (show(s.words.map uv).length=((Qy m).words.map uv).toArray.size by simp only[List.size_toArray,List.length_map];rw[HK.o,e1]);have hvW:v.heap.size≠g:=by omega
 clear x0 x1 b1 hg2 BV L1 L2 L3 e1;have x0:=(Qa HL1.o).1 0;have x1:=(Qa HL1.o).1 1;have y0:=(Qa HL3.o).1 0;have y1:=(Qa HL3.o).1 1;simp only[Zx,Zy,Zz] at x0 x1 y0 y1;have HX:=Zh hx;have hxl:x<18446744073709551616:=HF.o.2.2 x (List.mem_of_getElem? hx);clear hx;go_wp2_with ((with_reducible refine QEi (o:=⟨some 13,_,_,_,_,_⟩) rfl (.tmp 10) (.tmp 12) 50 50 rfl 139 Tryz.underlying50 Qzo g k k ⟨b0,o0,none⟩ k uc rfl rfl _ 139 HG.o (s.words.map uv) LN1.o SRC.o LN2.o OC.o ?_));rintro v2 h2 b2;have M1:=(b2.block (v.heap.size) (Qb HL3.o) hvW).trans HL3.o;have M2:=(b2.block (w.heap.size+1) (Qb HL2.o) (by have:=Qb H2.o;omega)).trans HL2.o;have y0:=(Qa M1).1 0;have y1:=(Qa M1).1 1;have z0:=(Qa M2).1 0;have z1:=(Qa M2).1 1;have f0:=(Qa M2).2 0;have f1:=(Qa M2).2 1;have g0:=(Qa h2).1 (b / 64);have g1:=(Qa h2).2 (b / 64);rw[List.getElem?_toArray,List.getElem?_map,HX.o] at g0;simp only[List.getElem?_toArray,List.getElem?_cons_zero,List.getElem?_cons_succ,Option.map_some] at y0 y1 z0 z1 g0;have B2:=Zh b2;have HM1:=Zh M1;have HM2:=Zh M2;have HG2:=Zh h2;have q1:0≤(b:Int) / 64:=by omega
 have q2:(b:Int) / 64<k:=by omega
 have q3:((b:Int) / 64).toNat=b / 64:=by omega
 have q4:0≤(b:Int) % 64:=by omega
 have q5:IntKind.u64.wrap ((b:Int) % 64)=(b:Int) % 64:=by rw[IntKind.wrap_u64];omega
 have q6:((b:Int) % 64).toNat=b % 64:=by omega
 obtain⟨y,hy⟩:=Ze (x ||| 2 ^ (b % 64));have q7:bits .or .u64 (x:Int) (IntKind.u64.wrap (2 ^ (b % 64)))=(y:Int):=by
  have h1:IntKind.u64.wrap (2 ^ (b % 64))=((2 ^ (b % 64):Nat):Int):=by
   have:=Qjd b;rw[show((2:Int) ^ (b % 64))=((2 ^ (b % 64):Nat):Int) by simp,IntKind.wrap_u64];generalize 2 ^ (b % 64)=p at *;omega
  rw[h1,Qhl x _ hxl (Qjd b),hy]
 have HY:=Zh hy;have hg3:w.heap.size+1≠g:=by have:=Qb H2.o;omega
 clear x0 x1 b2 M1 M2 h2 hV hy;go_wp2;have HP:=Zh (show(putS s b).words=s.words.set (b / 64) y by
  unfold putS;rw[List.getD_eq_getElem?_getD,HX.o];simp[←HY.o])
 have HL:=Zh (show(putS s b).words.length=k by rw[HP.o,List.length_set];exact HK.o);have BF:Below w.heap.size w v2:=(BB.o.trans (B1.o.mono BB.o.size)).trans (B2.o.toBelow (Nat.le_trans BB.o.size hg1) (Nat.le_trans BB.o.size B1.o.size));refine bodyPost_ret (v:=setV (putS s b) (.slice (some ⟨g,0,none⟩) (putS s b).words.length (putS s b).words.length)) (by rw[HL.o,show setV (putS s b) (.slice (some ⟨g,0,none⟩) k k)=.agg #[.int .i64 (m:Int),.slice (some ⟨g,0,none⟩) k k] by unfold setV;rw[show(putS s b).width=s.width from rfl,HM.o]];simp[results,Tryz.results58,go_sem,z0,z1,hg3,Ne.symm hg3]) rfl ⟨_,rfl,⟨g,rfl,Nat.le_trans BB.o.size hg1,?_,Qnd HF.o b⟩,((BF.setCell (p:=⟨g,b / 64,none⟩) (Nat.le_trans BB.o.size hg1) _).setCell (p:=⟨w.heap.size+1,0,none⟩) (by show w.heap.size≤w.heap.size+1;omega) _).setCell (p:=⟨w.heap.size+1,1,none⟩) (by show w.heap.size≤w.heap.size+1;omega) _⟩;rw[Below.heap_setCell _ _ _ _ (by show g≠w.heap.size+1;omega),Below.heap_setCell _ _ _ _ (by show g≠w.heap.size+1;omega),HP.o,List.map_set];have hgg:=HG2.o;simp[World.setCell,Array.getElem?_modify,hgg]
end
section
open Go.RowKit
variable [Base]
def OwnE (s:QSet)(w:World)(e:Ending)(w':World):Prop:=∃u,e=.returned (.tuple #[setV s u,.int .i64 0])∧OwnS w.heap.size w' u s∧Below w.heap.size w w'
def NewS (B:Nat)(w:World)(u:Value)(s:QSet):Prop:=(u=.slice none 0 0∧s.words=[])∨OwnS B w u s
theorem NewS.words {B:Nat}{w:World}{u:Value}{s:QSet}(h:NewS B w u s):Qi w u s.words:=by
 rcases h with⟨rfl,h⟩|h
 ·rw[h];exact Qi.nil
 ·exact h.words
theorem NewS.shape {B:Nat}{w:World}{u:Value}{s:QSet}(h:NewS B w u s):∃a n c,u=.slice a n c:=by
 rcases h with⟨rfl,h⟩|⟨g,e,_⟩
 ·exact⟨_,_,_,rfl⟩
 ·exact⟨_,_,_,e⟩
theorem NewS.setCell {B r o:Nat}{x:Value}{w:World}{u:Value}{s:QSet}(h:NewS B w u s)(hr:r<B):NewS B (w.setCell ⟨r,o,none⟩ x) u s:=by
 rcases h with h|⟨g,e,h1,h2,h3⟩
 ·exact .inl h
 ·exact .inr ⟨g,e,h1,by rw[Below.heap_setCell _ _ _ _ (by show g≠r;omega)];exact h2,h3⟩
theorem NewS.mono {B C:Nat}{w:World}{u:Value}{s:QSet}(h:NewS B w u s)(hb:C≤B):NewS C w u s:=h.imp_right fun k=>k.mono hb
def SetE (r:QSet×Int)(w:World)(e:Ending)(w':World):Prop:=∃u,e=.returned (.tuple #[setV r.1 u,.int .i64 r.2])∧NewS w.heap.size w' u r.1∧Below w.heap.size w w'
def Qrd:QSet:=⟨0,[]⟩
abbrev QPd:Value:=.agg #[.int .i64 0,.slice none 0 0]
def QJd (n:Int)(w:World)(e:Ending)(w':World):Prop:=e=.returned (.tuple #[QPd,.int .i64 n])∧Below w.heap.size w w'
theorem QJd.set {n:Int}{w w':World}{e:Ending}(h:QJd n w e w'):SetE (Qrd,n) w e w':=⟨.slice none 0 0,h.1,.inl ⟨rfl,rfl⟩,h.2⟩
theorem Qxe (m:Nat)(hm:m≤256)(w:World):Calls Tryz.prog 49 #[.int .i64 m] w (OwnE (Qy m) w):=by
 have hmk:=QTd (Qj m) (by unfold Qj;omega) (((m:Int)+63) / 64) (by unfold Qj;omega);have HF:=Zh (QZb hm);have HZ:=Zh (QUt m);have hr:QEa (m:Int)=true:=by unfold QEa;simp;omega
 have HR:=Zh hr;clear hr;go_enter Tryz.func49,Tryz.ntmps49;go_wp2_with first|(go_at_call 116;refine(QYd HR.o _).mono ?_;rintro e w' ⟨rfl,rfl⟩)|(go_at_call 117;refine(QLf _ ZO ZO _).mono ?_;rintro e w' ⟨rfl,rfl⟩)
 refine bodyPost_ret (v:=.tuple #[setV (Qy m) (.slice (some ⟨w.heap.size+1,0,none⟩) (Qy m).words.length (Qy m).words.length),.int .i64 0]) (by simp[results,Tryz.results49,go_sem,Qy]) rfl ⟨_,rfl,⟨w.heap.size+1,rfl,by omega,?_,HF.o⟩,(Zb).alloc ZS _⟩;rw[←HZ.o];exact Qda _ _
theorem QSk (n:Int)(hn:QEa n=false)(w:World):Calls Tryz.prog 49 #[.int .i64 n] w (QJd 3 w):=by
 have HR:=Zh hn;clear hn;go_enter Tryz.func49,Tryz.ntmps49;go_wp2_with (go_at_call 116;refine(QYd HR.o _).mono ?_;rintro e w' ⟨rfl,rfl⟩);exact bodyPost_ret (v:=.tuple #[QPd,.int .i64 3]) (by simp[results,Tryz.results49,go_sem]) rfl ⟨rfl,Zb⟩
theorem ButB.refl (g:Nat)(w:World):ButB g w w:=⟨rfl,rfl,rfl,Nat.le_refl _,fun _ _ _=>rfl⟩
theorem ButB.trans {g:Nat}{a b c:World}(h:ButB g a b)(k:ButB g b c):ButB g a c:=⟨k.os.trans h.os,k.tape.trans h.tape,k.output.trans h.output,Nat.le_trans h.size k.size,fun i hi hn=>(k.block i (Nat.lt_of_lt_of_le hi h.size) hn).trans (h.block i hi hn)⟩
theorem ButB.alloc {g:Nat}{a w:World}(h:ButB g a w)(o:Obj):ButB g a (w.alloc o):=h.trans ⟨rfl,rfl,rfl,by simp,fun k hk _=>Below.heap_alloc _ _ _ hk⟩
theorem ButB.setCell {g:Nat}{a w:World}(h:ButB g a w)(o:Nat)(u:Value):ButB g a (w.setCell ⟨g,o,none⟩ u):=
 ⟨h.os,h.tape,h.output,by simpa using h.size,fun k hk hn=>by rw[Below.heap_setCell _ _ _ _ (by exact hn)];exact h.block k hk hn⟩
theorem ButB.below {g:Nat}{a w w':World}(h:ButB g a w)(k:Below w.heap.size w w'):ButB g a w':=h.trans ⟨k.os,k.tape,k.output,k.size,fun i hi _=>k.block i hi⟩
def PutQ (g:Nat)(s:QSet)(w:World)(e:Ending)(w':World):Prop:=
 e=.returned (.tuple #[])∧w'.heap[g]? = some (.cells (s.words.map uv).toArray 139 (0,0))∧ButB g w w'
theorem QRs (s:QSet)(b g:Nat)(w:World)(hf:QUb s)(hb:(b:Int)<s.width)(hg:w.heap[g]? = some (.cells (s.words.map uv).toArray 139 (0,0))):
  Calls Tryz.prog 118 #[setV s (.slice (some ⟨g,0,none⟩) s.words.length s.words.length),.int .i64 b] w (PutQ g (putS s b) w):=by
 obtain⟨m,hm,hm2,hk⟩:=Qka hf;obtain⟨k,hk2⟩:=Ze s.words.length;have hbk:b / 64<k:=by rw[←hk2,hk];unfold Qj;omega
 have hk5:k≤4:=by rw[←hk2,hk];unfold Qj;omega
 obtain⟨x,hx⟩:∃x,s.words[b / 64]? = some x:=⟨_,List.getElem?_eq_getElem (show b / 64<s.words.length by omega)⟩;have hxl:x<18446744073709551616:=hf.2.2 x (List.mem_of_getElem? hx);have hlt:=Qb hg;have g0:=(Qa hg).1 (b / 64);have g1:=(Qa hg).2 (b / 64);rw[List.getElem?_toArray,List.getElem?_map,hx] at g0;simp only[Option.map_some] at g0;have q1:0≤(b:Int) / 64:=by omega
 have q2:(b:Int) / 64<k:=by omega
 have q3:((b:Int) / 64).toNat=b / 64:=by omega
 have q4:0≤(b:Int) % 64:=by omega
 have q5:IntKind.u64.wrap (b:Int)=(b:Int):=by rw[IntKind.wrap_u64];omega
 have q6:((b:Int) % 64).toNat=b % 64:=by omega
 obtain⟨y,hy⟩:=Ze (x ||| 2 ^ (b % 64));have q7:bits .or .u64 (x:Int) (IntKind.u64.wrap (2 ^ (b % 64)))=(y:Int):=by
  have h1:IntKind.u64.wrap (2 ^ (b % 64))=((2 ^ (b % 64):Nat):Int):=by
   have:=Qjd b;rw[show((2:Int) ^ (b % 64))=((2 ^ (b % 64):Nat):Int) by simp,IntKind.wrap_u64];generalize 2 ^ (b % 64)=p at *;omega
  rw[h1,Qhl x _ hxl (Qjd b),hy]
 have HY:=Zh hy;have HX:=Zh hx;have HG:=Zh hg;have hne:w.heap.size≠g:=by omega
 rw[hk2];clear hy hx hg hf hm hk hk2;go_enter Tryz.func118,Tryz.ntmps118;go_wp2_with fail;have HP:=Zh (show(putS s b).words=s.words.set (b / 64) y by
  unfold putS;rw[List.getD_eq_getElem?_getD,HX.o];simp[←HY.o])
 go_end0;refine⟨rfl,?_,?_⟩
 ·rw[HP.o,List.map_set];have hgg:=HG.o;rw[Below.heap_alloc _ _ _ (by rw[World.size_setCell];exact Qb hgg)];simp[World.setCell,Array.getElem?_modify,hgg]
 ·exact((ButB.refl g w).setCell _ _).alloc _
end
section
open Go.RowKit
variable [Base]
theorem Qem (s:QSet)(u:Value)(w:World)(h:Qi w u s.words):Calls Tryz.prog 80 #[setV s u] w (Qia (setB s) w):=by
 obtain⟨a,c,rfl,hm,hc,hcm,hk⟩:=h.cell;obtain⟨n,hn⟩:=Ze s.words.length;obtain⟨W,hW⟩:=Ze (w.alloc (.cells #[.int .i64 s.width,.slice a n c] 52));have B0:Below w.heap.size w W:=by rw[←hW];exact Zb
 have HB0:W.heap[w.heap.size]? = some (.cells #[.int .i64 s.width,.slice a n c] 52 (0,0)):=by rw[←hW];exact heap_alloc_new _ _
 have x0:=(Qa HB0).1 0;have x1:=(Qa HB0).1 1;simp at x0 x1;rw[hn] at hm hc ⊢;have HW:=Zh hW;have BB:=Zh B0;have HN:=Zh hn;unfold maxLen at hm;by_cases h1:0≤s.width;rotate_left
 ·have hv:setB s=false:=by unfold setB QEa;simp[h1]
  rw[hv];clear hW HB0 hk B0 h hn hv;go_enter Tryz.func80,Tryz.ntmps80;go_wp2_with fail;rw[show w.alloc (.cells #[.int .i64 s.width,.slice a n c] 52)=W from HW.o];go_wp2;go_ret;exact⟨rfl,BB.o⟩
 by_cases h2:s.width≤256;rotate_left
 ·have hv:setB s=false:=by unfold setB QEa;simp[h2]
  rw[hv];clear hW HB0 hk B0 h hn hv;go_enter Tryz.func80,Tryz.ntmps80;go_wp2_with fail;rw[show w.alloc (.cells #[.int .i64 s.width,.slice a n c] 52)=W from HW.o];go_wp2;go_ret;exact⟨rfl,BB.o⟩
 by_cases h3:(n:Int)=(s.width+63) / 64;rotate_left
 ·have hv:setB s=false:=by unfold setB QId;rw[hn];simp[h3]
  have d2:((n:Int) !=(s.width+63) / 64)=true:=by simpa using h3
  rw[hv];clear hW HB0 hk B0 h hn hv h3;go_enter Tryz.func80,Tryz.ntmps80;go_wp2_with fail;rw[show w.alloc (.cells #[.int .i64 s.width,.slice a n c] 52)=W from HW.o];go_wp2;go_ret;exact⟨rfl,BB.o⟩
 have d2:((n:Int) !=(s.width+63) / 64)=false:=by simpa using h3
 have hlens:QId s=true:=by unfold QId;rw[hn];simpa using h3
 have HT:=Zh (QFh h.2 h1 hlens);have hv:setB s=Qli s:=by unfold setB QEa;rw[hlens];simp[h1,h2]
 rw[hv];have HK:=Zh hk;have HOK:=Zh h.2;obtain⟨sw,ws⟩:=s;dsimp only at *;obtain⟨m,rfl⟩:=Int.eq_ofNat_of_zero_le h1;have hle:m≤64*n:=by omega
 have hn5:n≤5:=by omega
 clear hW HB0 hk B0 h hn hv h3 hlens h1;go_enter Tryz.func80,Tryz.ntmps80;go_wp2_with fail;rw[show w.alloc (.cells #[.int .i64 (m:Int),.slice a n c] 52)=W from HW.o];go_wp2;go_loop [3] (fun y=>∃b:Nat,m≤b∧b≤64*n∧y=.int .i64 b∧Hid (∀k:Nat,m≤k→k<b→QE ws k=false)) (fun y=>64*n-(intOf y).toNat)
 case atStart=>exact⟨m,Nat.le_refl _,hle,rfl,fun k h1 h2=>by omega⟩
 case round=>
  obtain⟨b,hb1,hb2,rfl,HF⟩:=hrel;by_cases hlt:b<64*n
  ·obtain⟨x,hx⟩:∃x,ws[b / 64]? = some x:=⟨_,List.getElem?_eq_getElem (show b / 64<ws.length by have:=HN.o;omega)⟩;obtain⟨xb,off,rfl,hxb,-,hcell⟩:=HK.o (b / 64) x hx;have hxl:x<18446744073709551616:=HOK.o x (List.mem_of_getElem? hx);have gc:=(BB.o.cell (p:=⟨xb,off+b / 64,none⟩) hxb).trans hcell;have hbit:QE ws b=x.testBit (b % 64):=by unfold QE;rw[List.getD_eq_getElem?_getD,hx];rfl
   have sh:=Qbj x (b % 64) hxl;have e1:0≤(b:Int) / 64:=by omega
   have e2:(b:Int) / 64<n:=by omega
   have e3:((b:Int) / 64).toNat=b / 64:=by omega
   have e4:0≤(b:Int) % 64:=by omega
   have e5:IntKind.u64.wrap ((b:Int) % 64)=(b:Int) % 64:=by rw[IntKind.wrap_u64];omega
   have e6:((b:Int) % 64).toNat=b % 64:=by omega
   have HX:=Zh hbit;clear hx hxl hbit hcell HK
   cases hb:x.testBit (b % 64)
   ·rw[hb] at sh;have HB:=Zh (HX.o.trans hb);go_wp2;go_round
    case rel=>
     refine⟨b+1,by omega,by omega,by go_num,fun k h1 h2=>?_⟩;rcases Nat.lt_or_ge k b with h3|h3
     ·exact HF.o k h1 h3
     ·obtain rfl:k=b:=by omega
      exact HB.o
    case measure=>simp[intOf];omega
   ·rw[hb] at sh;have HB:=Zh (HX.o.trans hb);have hv:Qli ⟨m,ws⟩=false:=by
     rw[Bool.eq_false_iff];intro h;have h5:=HT.o.1 h b ZO (by have:=HN.o;omega);rw[HB.o] at h5
     cases h5
    rw[hv];clear HT hv;go_wp2;go_ret;exact⟨rfl,BB.o⟩
  ·have hv:Qli ⟨m,ws⟩=true:=HT.o.2 fun k h1 h2=>HF.o k ZO (by have:=HN.o;omega)
   have HV:=Zh hv;clear HT hv;go_wp2;go_ret;exact⟨Qyb HV.o.symm,BB.o⟩
end
section
open Go.RowKit
variable [Base]
def hasZ (s:QSet)(b:Int):Bool:=setB s&&(decide (0≤b)&&(decide (b<s.width)&&QE s.words b.toNat))
theorem QMp {s:QSet}(h:setB s=false)(b:Int):hasZ s b=false:=by unfold hasZ;rw[h];rfl
theorem QMm {s:QSet}{b:Int}(h:b<0):hasZ s b=false:=by unfold hasZ;rw[show decide (0≤b)=false by simpa using h];simp
theorem QNm {s:QSet}{b:Int}(h:s.width≤b):hasZ s b=false:=by unfold hasZ;rw[show decide (b<s.width)=false by simpa using h];simp
theorem QNp {s:QSet}{k:Nat}(h:setB s=true)(hk:(k:Int)<s.width):hasZ s k=QE s.words k:=by unfold hasZ;rw[h,show decide ((k:Int)<s.width)=true by simpa using hk];simp
theorem QT {s:QSet}{b:Bool}(hb:setB s=b)(u:Value)(w:World)(h:Qi w u s.words):Calls Tryz.prog 90 #[setV s u] w (Qia b w):=hb▸QOj s u w h
theorem Qpf {s:QSet}{b:Bool}(hb:setB s=b)(u:Value)(w:World)(h:Qi w u s.words):Calls Tryz.prog 80 #[setV s u] w (Qia b w):=hb▸Qem s u w h
theorem QUe {s:QSet}{k:Int}{b:Bool}(hb:(decide (0≤k)&&decide (k<s.width))=b)(a:Option Addr)(n c:Nat)(w:World):Calls Tryz.prog 180 #[.agg #[.int .i64 s.width,.slice a n c],.int .i64 k] w (Qia b w):=by
 subst hb;by_cases h1:0≤k
 ·by_cases h2:k<s.width
  ·have d1:decide (0≤k)=true:=by simpa using h1
   have d2:decide (k<s.width)=true:=by simpa using h2
   rw[d1,d2];go_enter Tryz.func180,Tryz.ntmps180;go_wp2;go_ret;exact⟨rfl,Zb⟩
  ·have d1:decide (0≤k)=true:=by simpa using h1
   have d2:decide (k<s.width)=false:=by simpa using h2
   rw[d1,d2];go_enter Tryz.func180,Tryz.ntmps180;go_wp2;go_ret;exact⟨rfl,Zb⟩
 ·have d1:decide (0≤k)=false:=by simpa using h1
  rw[d1];go_enter Tryz.func180,Tryz.ntmps180;go_wp2;go_ret;exact⟨rfl,Zb⟩
theorem rhas_any (s:QSet)(b:Int)(u:Value)(w:World)(h:Qi w u s.words):Calls Tryz.prog 216 #[setV s u,.int .i64 b] w (Qia (hasZ s b) w):=by
 obtain⟨a,c,rfl,hm,hc,hcm,hk⟩:=h.cell;obtain⟨n,hn⟩:=Ze s.words.length;obtain⟨W,hW⟩:=Ze (w.alloc (.cells #[.int .i64 s.width,.slice a n c] 52));have B0:Below w.heap.size w W:=by rw[←hW];exact Zb
 have HB0:W.heap[w.heap.size]? = some (.cells #[.int .i64 s.width,.slice a n c] 52 (0,0)):=by rw[←hW];exact heap_alloc_new _ _
 have x0:=(Qa HB0).1 0;have x1:=(Qa HB0).1 1;simp at x0 x1;rw[hn] at hm hc ⊢;have H0:=Zh HB0;have HW:=Zh hW;have BB:=Zh B0;have HN:=Zh hn;have HR:=Zh (show Qi W (.slice a n c) s.words by rw[←hn] at *;exact h.below B0);have HK:=Zh hk;have HOK:=Zh h.2;have hud:∀b:Bool,(undef=Value.bool b)=False:=fun b=>by simp[undef]
 unfold maxLen at hm;clear hW HB0 B0 hk hn;rcases Bool.eq_false_or_eq_true (setB s) with hv|hv
 rotate_left
 ·have HV:=Zh hv;rw[QMp hv b];clear hv;go_enter Tryz.func216,Tryz.ntmps216;go_wp2_with fail;rw[show w.alloc (.cells #[.int .i64 s.width,.slice a n c] 52)=W from HW.o];refine(Qpf HV.o _ _ HR.o).mono ?_;rintro e w1 ⟨rfl,b1⟩;have B1:=Zh (BB.o.trans (b1.mono BB.o.size));clear x0 x1 b1;go_wp2;go_ret;exact⟨rfl,B1.o⟩
 have HV:=Zh hv;have hf:=Zh (Qka (QBa hv h.2));by_cases h1:0≤b;rotate_left
 ·rw[QMm (by omega:b<0)];have d1:decide (0≤b)=false:=by simpa using h1
  clear hv h;go_enter Tryz.func216,Tryz.ntmps216;go_wp2_with fail;rw[show w.alloc (.cells #[.int .i64 s.width,.slice a n c] 52)=W from HW.o];refine(Qpf HV.o _ _ HR.o).mono ?_;rintro e w1 ⟨rfl,b1⟩;have B1:=Zh (BB.o.trans (b1.mono BB.o.size));have L1:=Zh (Qc H0.o b1 (Qb H0.o));clear x0 x1 b1;have x0:=(Qa L1.o).1 0;have x1:=(Qa L1.o).1 1;simp only[Zx,Zy,Zz] at x0 x1;go_wp2;go_ret;exact⟨rfl,B1.o⟩
 by_cases h2:b<s.width;rotate_left
 ·rw[QNm (by omega:s.width≤b)];have d1:decide (0≤b)=true:=by simpa using h1
  have d2:decide (b<s.width)=false:=by simpa using h2
  clear hv h;go_enter Tryz.func216,Tryz.ntmps216;go_wp2_with fail;rw[show w.alloc (.cells #[.int .i64 s.width,.slice a n c] 52)=W from HW.o];refine(Qpf HV.o _ _ HR.o).mono ?_;rintro e w1 ⟨rfl,b1⟩;have B1:=Zh (BB.o.trans (b1.mono BB.o.size));have L1:=Zh (Qc H0.o b1 (Qb H0.o));clear x0 x1 b1;have x0:=(Qa L1.o).1 0;have x1:=(Qa L1.o).1 1;simp only[Zx,Zy,Zz] at x0 x1;go_wp2;go_ret;exact⟨rfl,B1.o⟩
 obtain⟨k,rfl⟩:=Int.eq_ofNat_of_zero_le h1;have d1:decide (0≤(k:Int))=true:=by simp
 have d2:decide ((k:Int)<s.width)=true:=by simpa using h2
 rw[QNp hv h2];obtain⟨m,f1,f2,f3⟩:=hf.o;have hkn:k / 64<n:=by have:=HN.o;unfold Qj at f3;omega
 have hn5:n≤5:=by have:=HN.o;unfold Qj at f3;omega
 have hk256:k<256:=by omega
 obtain⟨x,hx⟩:∃x,s.words[k / 64]? = some x:=⟨_,List.getElem?_eq_getElem (show k / 64<s.words.length by have:=HN.o;omega)⟩;obtain⟨xb,off,rfl,hxb,-,hcell⟩:=HK.o (k / 64) x hx;have hxl:x<18446744073709551616:=HOK.o x (List.mem_of_getElem? hx);have hbit:QE s.words k=x.testBit (k % 64):=by unfold QE;rw[List.getD_eq_getElem?_getD,hx];rfl
 have sh:=Qbj x (k % 64) hxl;have e1:0≤(k:Int) / 64:=by omega
 have e2:(k:Int) / 64<n:=by omega
 have e3:((k:Int) / 64).toNat=k / 64:=by omega
 have e4:0≤(k:Int) % 64:=by omega
 have e5:IntKind.u64.wrap ((k:Int) % 64)=(k:Int) % 64:=by rw[IntKind.wrap_u64];omega
 have e7:IntKind.u64.wrap (k:Int)=(k:Int):=by rw[IntKind.wrap_u64];omega
 have e6:((k:Int) % 64).toNat=k % 64:=by omega
 rw[hbit];have HX:=Zh hbit;have HCE:=Zh (show ∀w9,Below w.heap.size w w9→w9.cell? ⟨xb,off+k / 64,none⟩=some (uv x) from fun w9 hb=>(hb.cell (p:=⟨xb,off+k / 64,none⟩) hxb).trans hcell);clear hx hxl hbit hcell HK hv h f1 f2 f3 hf hxb;go_enter Tryz.func216,Tryz.ntmps216;go_wp2_with fail;rw[show w.alloc (.cells #[.int .i64 s.width,.slice (some ⟨xb,off,none⟩) n c] 52)=W from HW.o];refine(Qpf HV.o _ _ HR.o).mono ?_;rintro e w1 ⟨rfl,b1⟩;have B1:=Zh (BB.o.trans (b1.mono BB.o.size));have L1:=Zh (Qc H0.o b1 (Qb H0.o));clear x0 x1 b1;have x0:=(Qa L1.o).1 0;have x1:=(Qa L1.o).1 1;simp only[Zx,Zy,Zz] at x0 x1;have gc:=HCE.o _ B1.o
 cases hb:x.testBit (k % 64)
 all_goals
  rw[hb] at sh;have HB:=Zh hb;clear hb;go_wp2;go_ret;exact⟨Qyb HB.o.symm,B1.o⟩
theorem QPj (s:QSet)(b:Int)(u:Value)(w:World)(h:Qi w u s.words):Calls Tryz.prog 139 #[setV s u,.int .i64 b] w (Qia (hasZ s b) w):=by
 obtain⟨a,c,rfl,hm,hc,hcm,hk⟩:=h.cell;obtain⟨n,hn⟩:=Ze s.words.length;obtain⟨W,hW⟩:=Ze (w.alloc (.cells #[.int .i64 s.width,.slice a n c] 52));have B0:Below w.heap.size w W:=by rw[←hW];exact Zb
 have HB0:W.heap[w.heap.size]? = some (.cells #[.int .i64 s.width,.slice a n c] 52 (0,0)):=by rw[←hW];exact heap_alloc_new _ _
 have x0:=(Qa HB0).1 0;have x1:=(Qa HB0).1 1;simp at x0 x1;rw[hn] at hm hc ⊢;have H0:=Zh HB0;have HW:=Zh hW;have BB:=Zh B0;have HN:=Zh hn;have HR:=Zh (show Qi W (.slice a n c) s.words by rw[←hn] at *;exact h.below B0);have HK:=Zh hk;have HOK:=Zh h.2;have hud:∀b:Bool,(undef=Value.bool b)=False:=fun b=>by simp[undef]
 unfold maxLen at hm;clear hW HB0 B0 hk hn;rcases Bool.eq_false_or_eq_true (setB s) with hv|hv
 rotate_left
 ·have HV:=Zh hv;rw[QMp hv b];clear hv;go_enter Tryz.func139,Tryz.ntmps139;go_wp2_with fail;rw[show w.alloc (.cells #[.int .i64 s.width,.slice a n c] 52)=W from HW.o];refine(QT HV.o _ _ HR.o).mono ?_;rintro e w1 ⟨rfl,b1⟩;have B1:=Zh (BB.o.trans (b1.mono BB.o.size));clear x0 x1 b1;go_wp2;go_ret;exact⟨rfl,B1.o⟩
 have HV:=Zh hv;have hf:=Zh (Qka (QBa hv h.2));by_cases h1:0≤b;rotate_left
 ·rw[QMm (by omega:b<0)];have d1:decide (0≤b)=false:=by simpa using h1
  clear hv h;go_enter Tryz.func139,Tryz.ntmps139;go_wp2_with fail;rw[show w.alloc (.cells #[.int .i64 s.width,.slice a n c] 52)=W from HW.o];refine(QT HV.o _ _ HR.o).mono ?_;rintro e w1 ⟨rfl,b1⟩;have B1:=Zh (BB.o.trans (b1.mono BB.o.size));have L1:=Zh (Qc H0.o b1 (Qb H0.o));clear x0 x1 b1;have x0:=(Qa L1.o).1 0;have x1:=(Qa L1.o).1 1;simp only[Zx,Zy,Zz] at x0 x1;go_wp2_with fail;refine(QUe (s:=s) (b:=false) (by rw[d1];rfl) a n c _).mono ?_;rintro e w2 ⟨rfl,b2⟩;have B2:=Zh (B1.o.trans (b2.mono B1.o.size));have L2:=Zh (Qc L1.o b2 (Qb L1.o));clear x0 x1 b2;have x0:=(Qa L2.o).1 0;have x1:=(Qa L2.o).1 1;simp only[Zx,Zy,Zz] at x0 x1;go_wp2;go_ret;exact⟨rfl,B2.o⟩
 by_cases h2:b<s.width;rotate_left
 ·rw[QNm (by omega:s.width≤b)];have d1:decide (0≤b)=true:=by simpa using h1
  have d2:decide (b<s.width)=false:=by simpa using h2
  clear hv h;go_enter Tryz.func139,Tryz.ntmps139;go_wp2_with fail;rw[show w.alloc (.cells #[.int .i64 s.width,.slice a n c] 52)=W from HW.o];refine(QT HV.o _ _ HR.o).mono ?_;rintro e w1 ⟨rfl,b1⟩;have B1:=Zh (BB.o.trans (b1.mono BB.o.size));have L1:=Zh (Qc H0.o b1 (Qb H0.o));clear x0 x1 b1;have x0:=(Qa L1.o).1 0;have x1:=(Qa L1.o).1 1;simp only[Zx,Zy,Zz] at x0 x1;go_wp2_with fail;refine(QUe (s:=s) (b:=false) (by rw[d1,d2];rfl) a n c _).mono ?_;rintro e w2 ⟨rfl,b2⟩;have B2:=Zh (B1.o.trans (b2.mono B1.o.size));have L2:=Zh (Qc L1.o b2 (Qb L1.o));clear x0 x1 b2;have x0:=(Qa L2.o).1 0;have x1:=(Qa L2.o).1 1;simp only[Zx,Zy,Zz] at x0 x1;go_wp2;go_ret;exact⟨rfl,B2.o⟩
 obtain⟨k,rfl⟩:=Int.eq_ofNat_of_zero_le h1;have d1:decide (0≤(k:Int))=true:=by simp
 have d2:decide ((k:Int)<s.width)=true:=by simpa using h2
 rw[QNp hv h2];obtain⟨m,f1,f2,f3⟩:=hf.o;have hkn:k / 64<n:=by have:=HN.o;unfold Qj at f3;omega
 have hn5:n≤5:=by have:=HN.o;unfold Qj at f3;omega
 have hk256:k<256:=by omega
 obtain⟨x,hx⟩:∃x,s.words[k / 64]? = some x:=⟨_,List.getElem?_eq_getElem (show k / 64<s.words.length by have:=HN.o;omega)⟩;obtain⟨xb,off,rfl,hxb,-,hcell⟩:=HK.o (k / 64) x hx;have hxl:x<18446744073709551616:=HOK.o x (List.mem_of_getElem? hx);have hbit:QE s.words k=x.testBit (k % 64):=by unfold QE;rw[List.getD_eq_getElem?_getD,hx];rfl
 have sh:=Qbj x (k % 64) hxl;have e1:0≤(k:Int) / 64:=by omega
 have e2:(k:Int) / 64<n:=by omega
 have e3:((k:Int) / 64).toNat=k / 64:=by omega
 have e4:0≤(k:Int) % 64:=by omega
 have e5:IntKind.u64.wrap ((k:Int) % 64)=(k:Int) % 64:=by rw[IntKind.wrap_u64];omega
 have e7:IntKind.u64.wrap (k:Int)=(k:Int):=by rw[IntKind.wrap_u64];omega
 have e6:((k:Int) % 64).toNat=k % 64:=by omega
 rw[hbit];have HX:=Zh hbit;have HCE:=Zh (show ∀w9,Below w.heap.size w w9→w9.cell? ⟨xb,off+k / 64,none⟩=some (uv x) from fun w9 hb=>(hb.cell (p:=⟨xb,off+k / 64,none⟩) hxb).trans hcell);clear hx hxl hbit hcell HK hv h f1 f2 f3 hf hxb;go_enter Tryz.func139,Tryz.ntmps139;go_wp2_with fail;rw[show w.alloc (.cells #[.int .i64 s.width,.slice (some ⟨xb,off,none⟩) n c] 52)=W from HW.o];refine(QT HV.o _ _ HR.o).mono ?_;rintro e w1 ⟨rfl,b1⟩;have B1:=Zh (BB.o.trans (b1.mono BB.o.size));have L1:=Zh (Qc H0.o b1 (Qb H0.o));clear x0 x1 b1;have x0:=(Qa L1.o).1 0;have x1:=(Qa L1.o).1 1;simp only[Zx,Zy,Zz] at x0 x1;go_wp2_with fail;refine(QUe (s:=s) (b:=true) (by rw[d1,d2];rfl) (some ⟨xb,off,none⟩) n c _).mono ?_;rintro e w2 ⟨rfl,b2⟩;have B2:=Zh (B1.o.trans (b2.mono B1.o.size));have L2:=Zh (Qc L1.o b2 (Qb L1.o));clear x0 x1 b2;have x0:=(Qa L2.o).1 0;have x1:=(Qa L2.o).1 1;simp only[Zx,Zy,Zz] at x0 x1;have gc:=HCE.o _ B2.o
 cases hb:x.testBit (k % 64)
 all_goals
  rw[hb] at sh;have HB:=Zh hb;clear hb;go_wp2;go_ret;exact⟨Qyb HB.o.symm,B2.o⟩
end
section
open Go.RowKit
variable [Base]
structure QJc (w wr:World)(r c g m:Nat)(s:QSet):Prop where
 below:Below w.heap.size w wr
 res:wr.heap[r]? = some (.cells #[.int .i64 0,.slice none 0 0] 52 (0,0))
 cur:wr.heap[c]? = some (.cells #[.int .i64 (m:Int),.slice (some ⟨g,0,none⟩) (Qj m) (Qj m)] 52 (0,0))
 own:wr.heap[g]? = some (.cells (s.words.map uv).toArray 139 (0,0))
 form:QUb s
 width:s.width=(m:Int)
 old:w.heap.size≤r∧w.heap.size≤c∧w.heap.size≤g∧r≠c∧r≠g∧c≠g
theorem QJc.len {w wr:World}{r c g m:Nat}{s:QSet}(h:QJc w wr r c g m s):s.words.length=Qj m:=by
 obtain⟨k,e,_,h2⟩:=Qka h.form;have:=h.width;rw[h2,show k=m by omega]
theorem QJc.put {w wr w2:World}{r c g m b:Nat}{s:QSet}(h:QJc w wr r c g m s)(hg:w2.heap[g]? = some (.cells ((putS s b).words.map uv).toArray 139 (0,0)))(hb:ButB g wr w2):QJc w w2 r c g m (putS s b):=by
 obtain⟨o1,o2,o3,o4,o5,o6⟩:=h.old;exact⟨h.below.trans (hb.toBelow o3 h.below.size),(hb.block r (Qb h.res) o5).trans h.res,(hb.block c (Qb h.cur) o6).trans h.cur,hg,Qnd h.form b,h.width,h.old⟩
theorem QJc.fin {w wr:World}{r c g m:Nat}{s:QSet}(h:QJc w wr r c g m s)(x y:Value):NewS w.heap.size ((wr.setCell ⟨r,0,none⟩ x).setCell ⟨r,1,none⟩ y) (.slice (some ⟨g,0,none⟩) (Qj m) (Qj m)) s∧Below w.heap.size w ((wr.setCell ⟨r,0,none⟩ x).setCell ⟨r,1,none⟩ y):=by
 obtain⟨o1,o2,o3,o4,o5,o6⟩:=h.old;refine⟨?_,(h.below.setCell (p:=⟨r,0,none⟩) o1 _).setCell (p:=⟨r,1,none⟩) o1 _⟩;have hg:((wr.setCell ⟨r,0,none⟩ x).setCell ⟨r,1,none⟩ y).heap[g]? = some (.cells (s.words.map uv).toArray 139 (0,0)):=by
  rw[Below.heap_setCell _ _ _ _ (by show g≠r;omega),Below.heap_setCell _ _ _ _ (by show g≠r;omega)];exact h.own
 exact .inr ⟨g,by rw[h.len],o3,hg,h.form⟩
theorem QWp {w wr:World}{r c g m b:Nat}{s:QSet}(h:QJc w wr r c g m s)(hb:b<m):
  Calls Tryz.prog 118 #[.agg #[.int .i64 (m:Int),.slice (some ⟨g,0,none⟩) (Qj m) (Qj m)],.int .i64 b] wr (PutQ g (putS s b) wr):=by
 have k:=QRs s b g wr h.form (by rw[h.width];omega) h.own;rw[h.len,show setV s (.slice (some ⟨g,0,none⟩) (Qj m) (Qj m))=.agg #[.int .i64 (m:Int),.slice (some ⟨g,0,none⟩) (Qj m) (Qj m)] from by unfold setV;rw[h.width]] at k;exact k
theorem QHj (m:Nat):(Qy m).words.length=Qj m:=by unfold Qy;simp
theorem Qur (m:Nat)(hm:m≤256)(w:World):Calls Tryz.prog 50 #[.int .i64 m] w (SetE (QMb m m,0) w):=by
 have HM:=Zh hm;go_enter Tryz.func50,Tryz.ntmps50;go_wp2_with fail;refine(Qxe m hm _).mono ?_;rintro e v ⟨u,rfl,⟨g,rfl,o1,o2,o3⟩,b1⟩;simp only[World.size_alloc] at o1 b1;have hz:w.heap.size<v.heap.size:=by have:=b1.size;simp only[World.size_alloc] at this;omega
 rw[show setV (Qy m) (.slice (some ⟨g,0,none⟩) (Qy m).words.length (Qy m).words.length)=.agg #[.int .i64 (m:Int),.slice (some ⟨g,0,none⟩) (Qj m) (Qj m)] from by rw[QHj];rfl];have hgv:=Qb o2;have I0:=Zh (show QJc w (v.alloc (.cells #[.int .i64 (m:Int),.slice (some ⟨g,0,none⟩) (Qj m) (Qj m)] 52)) w.heap.size v.heap.size g m (QMb m 0) from
  ⟨((Zb).trans (b1.mono ZO)).alloc ZO _,Qz _ ((b1.block w.heap.size ZO).trans (heap_alloc_new w _)),heap_alloc_new _ _,Qz _ o2,QZb hm,rfl,by omega,by omega,by omega,by omega,by omega,by omega⟩)
 obtain⟨V,hV⟩:=Ze (v.alloc (.cells #[.int .i64 (m:Int),.slice (some ⟨g,0,none⟩) (Qj m) (Qj m)] 52));rw[hV] at I0;have HV:=Zh hV;have hne:w.heap.size≠v.heap.size:=by omega
 clear hV o1 o2 o3 b1;go_wp2_with fail;rw[show v.alloc (.cells #[.int .i64 (m:Int),.slice (some ⟨g,0,none⟩) (Qj m) (Qj m)] 52)=V from HV.o];have J0:=Zh (Qa I0.o.cur);have x0:=J0.o.1 0;have x1:=J0.o.1 1;simp only[Zx,Zy,Zz] at x0 x1;go_loopw [14] (fun y wr=>∃i:Nat,i≤m∧y=.int .i64 i∧Hid (QJc w wr w.heap.size v.heap.size g m (QMb m i))) (fun y _=>m-(intOf y).toNat)
 case atStart=>exact⟨0,Nat.zero_le _,rfl,I0⟩
 case round=>
  clear x0 x1 J0 I0;obtain⟨i,hi,rfl,I⟩:=hrel;have J0:=Zh (Qa I.o.cur);have x0:=J0.o.1 0;have x1:=J0.o.1 1;have J1:=Zh (Qa I.o.res);have y0:=J1.o.1 0;have y1:=J1.o.1 1;have f0:=J1.o.2 0;have f1:=J1.o.2 1;simp only[Zx,Zy,Zz] at x0 x1 y0 y1;by_cases hlt:i<m
  ·go_wp2_with fail;refine(QWp I.o hlt).mono ?_;rintro e w2 ⟨rfl,p1,p2⟩;have I2:=Zh (show QJc w w2 w.heap.size v.heap.size g m (QMb m (i+1)) by rw[QFf];exact I.o.put p1 p2);clear p1 p2 x0 x1 y0 y1 f0 f1;go_wp2;go_roundw
   case rel=>exact⟨i+1,by omega,by go_num,I2⟩
   case measure=>simp[intOf];omega
  ·obtain rfl:i=m:=by omega
   have HF:=Zh (I.o.fin (.int .i64 (i:Int)) (.slice (some ⟨g,0,none⟩) (Qj i) (Qj i)));go_wp2;refine bodyPost_ret (v:=.tuple #[setV (QMb i i) (.slice (some ⟨g,0,none⟩) (Qj i) (Qj i)),.int .i64 0]) (by rw[show setV (QMb i i) (.slice (some ⟨g,0,none⟩) (Qj i) (Qj i))=.agg #[.int .i64 (i:Int),.slice (some ⟨g,0,none⟩) (Qj i) (Qj i)] from by unfold setV;rw[I.o.width]];simp[results,Tryz.results50,go_sem,y0,y1]) rfl ⟨_,rfl,HF.o.1,HF.o.2⟩
end
end Go.Proofs.YtijekimobahgpaaGreatDoor
