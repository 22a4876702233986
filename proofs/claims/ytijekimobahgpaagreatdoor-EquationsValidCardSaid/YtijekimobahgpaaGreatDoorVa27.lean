/- A part of the proof. -/
import Derived.Test.YtijekimobahgpaaGreatDoorVa22
import Derived.Test.YtijekimobahgpaaGreatDoorVa26
set_option linter.unusedVariables false
set_option linter.unusedSimpArgs false
set_option linter.unusedSectionVars false
set_option maxRecDepth 100000
set_option maxHeartbeats 16000000
namespace Go.Proofs.YtijekimobahgpaaGreatDoor
section
open Go.RowKit
variable [Base]
theorem QAh.keep {w w':World}{v:Value}{l:List Int}(h:QAh w v l)(hs:Qf 3 w w'):QAh w' v l:=⟨Qg.same h.1 hs,h.2⟩
def RowB (w:World)(b n:Nat)(f:Nat→List Int):Prop:=∃vs:List Value,vs.length=n∧w.heap[b]? = some (.cells vs.toArray IT (0,0))∧∀j v,vs[j]? = some v→QAh w v (f j)
theorem RowB.keep {w w':World}{b n:Nat}{f:Nat→List Int}(h:RowB w b n f)(hb:w'.heap[b]? = w.heap[b]?)(hs:Qf 3 w w'):RowB w' b n f:=by
 obtain⟨vs,h1,h2,h3⟩:=h;exact⟨vs,h1,hb.trans h2,fun j v hv=>(h3 j v hv).keep hs⟩
theorem RowB.zero (w:World)(b n:Nat)(h:w.heap[b]? = some (.cells (rz n) IT (0,0))):RowB w b n (fun _=>[]):=by
 refine⟨List.replicate n (.slice none 0 0),by simp,h,fun j v hv=>?_⟩;obtain rfl:v=.slice none 0 0:=by
  have:=List.mem_of_getElem? hv;exact(List.mem_replicate.1 this).2
 exact⟨Qg.nil,.inl ⟨rfl,rfl⟩⟩
theorem RowB.set {w:World}{b n i:Nat}{f g:Nat→List Int}{u:Value}(h:RowB w b n f)(hi:i<n)(hu:QAh w u (g i))(hg:∀j,j≠i→g j=f j)(hbs:Base.b≤b):RowB (w.setCell ⟨b,i,none⟩ u) b n g:=by
 obtain⟨vs,h1,h2,h3⟩:=h;have hT:tyAt w b=some IT:=Qv h2 hbs;have hS:Qf 3 w (w.setCell ⟨b,i,none⟩ u):=Qf.setCell (U:=IT) hT ZD;refine⟨vs.set i u,by rw[List.length_set];exact h1,?_,fun j v hv=>?_⟩
 ·simp[World.setCell,Array.getElem?_modify,h2]
 ·rw[List.getElem?_set] at hv;by_cases hij:i=j
  ·subst hij;rw[if_pos rfl,if_pos ZO] at hv;injection hv with hv
   subst hv;exact hu.keep hS
  ·rw[if_neg hij] at hv;rw[hg j (Ne.symm hij)];exact(h3 j v hv).keep hS
theorem RowB.cell {w:World}{b n i:Nat}{f:Nat→List Int}(h:RowB w b n f)(hi:i<n):∃a k c,w.cell? ⟨b,i,none⟩=some (.slice a k c)∧QAh w (.slice a k c) (f i)∧w.frozen? ⟨b,i,none⟩=false:=by
 obtain⟨vs,h1,h2,h3⟩:=h;obtain⟨v,hv⟩:∃v,vs[i]? = some v:=⟨_,List.getElem?_eq_getElem ZO⟩;obtain⟨a,c,rfl,-⟩:=(h3 i v hv).1.cell;exact⟨a,_,c,((Qa h2).1 i).trans (by simpa using hv),h3 i _ hv,(Qa h2).2 i⟩
theorem RowB.rows {w:World}{b n:Nat}{f:Nat→List Int}(h:RowB w b n f)(hn:n≤maxLen):Qoa Qqc w (.slice (some ⟨b,0,none⟩) n n) ((List.range n).map f):=by
 obtain⟨vs,h1,h2,h3⟩:=h;refine⟨vs.map fun v=>[v],⟨n,n,by rw[Qmf];simp[h1,Qqc],Nat.le_refl _,hn,.inr ⟨b,0,vs.toArray,(0,0),rfl,.of h2,fun i hi=>?_⟩⟩,?_⟩
 ·rw[Qmf] at hi ⊢;simp
 ·have key:∀(vs:List Value) (k:Nat),(∀j v,vs[j]? = some v→QAh w v (f (k+j)))→All2 (Qqc.C w) (vs.map fun v=>[v]) ((List.range' k vs.length).map f):=fun vs=>by
   induction vs with
  |nil=>intro k _;exact trivial
  |cons v r ih=>
    intro k h;refine⟨⟨v,rfl,(h 0 v rfl).1⟩,ih (k+1) fun j u hu=>?_⟩;have:=h (j+1) u (by simpa using hu)
    rwa [show k+(j+1)=k+1+j by omega] at this
  have h4:=key vs 0 (fun j v hv=>by rw[Nat.zero_add];exact h3 j v hv);rw[h1] at h4;rw[List.range_eq_range'];exact h4
theorem Qky {p:List Qo}(hc:Ckd p){X:List Qx}(hX:QB p 0=X)(hn:X.length≤256){i:Nat}:(sucI p X i).length≤300:=by
 subst hX;unfold sucI
 cases hi:(QB p 0)[i]? with
|none=>simp
|some n=>
  dsimp only;rw[List.length_map];unfold Qmd;have hin:=QLb.1 (List.mem_of_getElem? hi)
  split
  ·simp
  ·split
   ·exact Nat.le_trans (List.length_filter_le _ _) ZO
   ·split
    ·simp
    ·split
     ·simp
     ·split
      ·rename_i h1 h2 h3 h4 h5;rw[List.length_map];obtain⟨fi,f,hf,hcs⟩:=hin;rcases hcs with rfl|rfl|⟨k,b,j,s,hb,hs,hcs⟩
       ·exact absurd rfl h1
       ·exact absurd rfl h2
       ·have hat:At p fi k j f b s:=⟨hf,hb,hs⟩;have:=QNw (hc.at_ hat).1;rcases hcs with rfl|⟨-,rfl⟩
        ·rw[hat.d 3];omega
        ·rw[hat.d 4];omega
      ·simp
theorem Qzy {U:TypeId}(h:U∈Qqc.T::Qqc.inner):U≠GRT:=by
 have h2:U=IT∨U=3:=by simpa [Qqc] using h
 rcases h2 with rfl|rfl <;> decide
structure BuR (z gb sb pb n:Nat)(nv:Value)(W0 wr:World)(E:List (Int×Int)):Prop where
 below:Below z W0 wr
 gbk:wr.heap[gb]? = some (.cells #[nv,.slice (some ⟨sb,0,none⟩) n n,.slice (some ⟨pb,0,none⟩) n n] GRT (0,0))
 srow:RowB wr sb n (fun j=>rowA E j)
 prow:RowB wr pb n (fun j=>rowA (Qxw E) j)
 old:z≤sb∧z≤pb∧z≤gb∧sb≠pb∧sb≠gb∧pb≠gb
 zs:z≤W0.heap.size∧Base.b≤z
theorem BuR.start {z gb sb pb n:Nat}{nv:Value}{W0 X wr:World}(hz:z≤W0.heap.size∧Base.b≤z)(hb:Below z W0 X)(hs:X.heap[sb]? = some (.cells (rz n) IT (0,0)))(hp:X.heap[pb]? = some (.cells (rz n) IT (0,0)))(hg:X.heap[gb]? = some (.cells #[.slice none 0 0,.slice none 0 0,.slice none 0 0] GRT (0,0)))(old:z≤sb∧z≤pb∧z≤gb∧sb≠pb∧sb≠gb∧pb≠gb)(e:((X.setCell ⟨gb,0,none⟩ nv).setCell ⟨gb,1,none⟩ (.slice (some ⟨sb,0,none⟩) n n)).setCell ⟨gb,2,none⟩ (.slice (some ⟨pb,0,none⟩) n n)=wr):BuR z gb sb pb n nv W0 wr []:=by
 obtain⟨o1,o2,o3,o4,o5,o6⟩:=old;subst e;have hb2:=(((hb.setCell (p:=⟨gb,0,none⟩) o3 nv).setCell (p:=⟨gb,1,none⟩) o3 (.slice (some ⟨sb,0,none⟩) n n)).setCell (p:=⟨gb,2,none⟩) o3 (.slice (some ⟨pb,0,none⟩) n n));refine⟨hb2,QWt hg _ _ _,RowB.zero _ _ _ ?_,RowB.zero _ _ _ ?_,⟨o1,o2,o3,o4,o5,o6⟩,hz⟩
 ·rw[Below.heap_setCell _ _ _ _ o5,Below.heap_setCell _ _ _ _ o5,Below.heap_setCell _ _ _ _ o5];exact hs
 ·rw[Below.heap_setCell _ _ _ _ o6,Below.heap_setCell _ _ _ _ o6,Below.heap_setCell _ _ _ _ o6];exact hp
section
variable {z gb sb pb n:Nat} {nv:Value} {W0 wr w2:World} {E:List (Int×Int)}
theorem BuR.lt (h:BuR z gb sb pb n nv W0 wr E):gb<wr.heap.size∧sb<wr.heap.size∧pb<wr.heap.size:=by
 obtain⟨_,_,h1,_⟩:=h.srow;obtain⟨_,_,h2,_⟩:=h.prow;exact⟨Qb h.gbk,Qb h1,Qb h2⟩
theorem BuR.next (h:BuR z gb sb pb n nv W0 wr E)(b:Below wr.heap.size wr w2):BuR z gb sb pb n nv W0 w2 E:=by
 obtain⟨h1,h2,h3⟩:=h.lt;have hz:=h.zs.1;have hs:=h.below.size;exact⟨h.below.trans (b.mono ZO),(b.block gb h1).trans h.gbk,h.srow.keep (b.block sb h2) (Qf.below b),h.prow.keep (b.block pb h3) (Qf.below b),h.old,h.zs⟩
theorem BuR.edge {i m:Nat}{u:Value}(h:BuR z gb sb pb n nv W0 wr E)(hi:i<n)(hu:QAh wr u (insI (rowA E i) m)):RowB (wr.setCell ⟨sb,i,none⟩ u) sb n (fun j=>rowA (E++[((i:Int),(m:Int))]) j)∧RowB (wr.setCell ⟨sb,i,none⟩ u) pb n (fun j=>rowA (Qxw E) j) ∧
  (wr.setCell ⟨sb,i,none⟩ u).heap[gb]? = some (.cells #[nv,.slice (some ⟨sb,0,none⟩) n n,.slice (some ⟨pb,0,none⟩) n n] GRT (0,0))∧Below z W0 (wr.setCell ⟨sb,i,none⟩ u)∧Qf 3 wr (wr.setCell ⟨sb,i,none⟩ u):=by
 obtain⟨o1,o2,o3,o4,o5,o6⟩:=h.old;have hbs:=h.zs.2;obtain⟨_,_,h1,_⟩:=h.srow;have hT:tyAt wr sb=some IT:=Qv h1 ZO;have hS:Qf 3 wr (wr.setCell ⟨sb,i,none⟩ u):=Qf.setCell (U:=IT) hT ZD;refine⟨h.srow.set hi (by show QAh wr u (rowA (E++[((i:Int),(m:Int))]) (i:Int));rw[QIw,if_pos rfl];exact hu) (fun j hj=>by rw[QIw,if_neg ZO]) ZO,h.prow.keep (Below.heap_setCell _ _ _ _ (Ne.symm o4)) hS,(Below.heap_setCell _ _ _ _ (Ne.symm o5)).trans h.gbk,h.below.setCell (p:=⟨sb,i,none⟩) o1 _,hS⟩
theorem BuR.edge2 {i m:Nat}{u:Value}(hz:z≤W0.heap.size∧Base.b≤z)(old:z≤sb∧z≤pb∧z≤gb∧sb≠pb∧sb≠gb∧pb≠gb)(h1:RowB wr sb n (fun j=>rowA (E++[((i:Int),(m:Int))]) j))(h2:RowB wr pb n (fun j=>rowA (Qxw E) j))(h3:wr.heap[gb]? = some (.cells #[nv,.slice (some ⟨sb,0,none⟩) n n,.slice (some ⟨pb,0,none⟩) n n] GRT (0,0)))(h4:Below z W0 wr)(hm:m<n)(hu:QAh wr u (insI (rowA (Qxw E) m) i)):BuR z gb sb pb n nv W0 (wr.setCell ⟨pb,m,none⟩ u) (E++[((i:Int),(m:Int))])∧Qf 3 wr (wr.setCell ⟨pb,m,none⟩ u):=by
 obtain⟨o1,o2,o3,o4,o5,o6⟩:=old;have hbs:=hz.2;obtain⟨_,_,h5,_⟩:=id h2;have hT:tyAt wr pb=some IT:=Qv h5 ZO;have hS:Qf 3 wr (wr.setCell ⟨pb,m,none⟩ u):=Qf.setCell (U:=IT) hT ZD;exact⟨⟨h4.setCell (p:=⟨pb,m,none⟩) o2 _,(Below.heap_setCell _ _ _ _ (Ne.symm o6)).trans h3,h1.keep (Below.heap_setCell _ _ _ _ o4) hS,h2.set hm (by show QAh wr u (rowA (Qxw (E++[((i:Int),(m:Int))])) (m:Int));rw[Qax,QIw,if_pos rfl];exact hu) (fun j hj=>by rw[Qax,QIw,if_neg ZO]) ZO,⟨o1,o2,o3,o4,o5,o6⟩,hz⟩,hS⟩
end
theorem QLx {w:World}(p:List Qo)(v:Value)(h:QAa w v p)(he:QFa p=0)(hbs:Base.b≤w.heap.size):Calls Tryz.prog 17 #[.agg #[v]] w (Qit p w):=by
 obtain⟨z,hz⟩:=Ze w.heap.size;have ck:=Qzb he;have KC:=Zh (show ∀x,Below z w x→Calls Tryz.prog 62 #[.agg #[v]] x (Qwy x) from fun x b=>Qcx p v (h.below (hz▸b)) ck (by have:=b.size;omega));have KL:=Zh (show ∀x,Below z w x→Calls Tryz.prog 63 #[.agg #[v]] x (QBu (QR p) x) from fun x b=>Qcy p v (h.below (hz▸b)) he (by have:=b.size;omega));have KS:=Zh (show ∀(lv:Value) (i:Nat) (n:Qx) (x:World),Below z w x→QJi x lv (QB p 0)→(QB p 0)[i]? = some n→Calls Tryz.prog 64 #[.agg #[v],lv,iv i] x (QWk ((Qmd p (QB p 0) n).map (idxI (QB p 0))) x) from fun lv i n x b hN hn=>Qby p v lv (h.below (hz▸b)) he hN i n hn (by have:=b.size;omega));have HNP:=Zh (show QR p=QB p 0 from Qne he);have HLE:=Zh (show(QB p 0).length≤256 by rw[←HNP.o];exact Qme);have HCK:=Zh ck;have HER:=Zh he;obtain⟨a,c,rfl,-⟩:=h.cell;obtain⟨n,hl⟩:=Ze p.length;rw[hl] at KC KL KS ⊢;obtain⟨W,hW⟩:=Ze ((w.alloc (.cells #[.slice a n c] 25)).alloc (.cells #[.slice none 0 0,.slice none 0 0,.slice none 0 0] GRT));have HPB:=Zh (show W.heap[z]? = some (.cells #[.slice a n c] 25 (0,0)) by rw[←hW,←hz];exact Qz _ (heap_alloc_new _ _));have HRB:=Zh (show W.heap[z+1]? = some (.cells #[.slice none 0 0,.slice none 0 0,.slice none 0 0] GRT (0,0)) by rw[←hW,←hz];exact Qda _ _);have BW:=Zh (show Below z w W by rw[←hW,←hz];exact(Zb).alloc ZS _);have HWW:=Zh hW;have HZ:=Zh hz;have hzW:z+2=W.heap.size:=by rw[←hW,←hz];simp
 rw[hz] at hbs;clear h hl hW ck he;have x0:=(Qd HPB.o).1 0;simp at x0;go_enter Tryz.func17,Tryz.ntmps17;go_upto_region 1 with(fail)
 rw[show(w.alloc (.cells #[.slice a n c] 25)).alloc (.cells #[.slice none 0 0,.slice none 0 0,.slice none 0 0] GRT)=W from HWW.o]
 try rw[hz]
 go_wp2_with fail;refine(KC.o W BW.o).mono ?_;rintro e w1 ⟨rfl,b1⟩;obtain⟨w2,hw2⟩:=Ze (w1.alloc (.cells #[iv 0,iv 0,iv 0,iv 0] NT));have HW2:=Zh hw2;have B2:=Zh (show Below (z+2) W w2 by rw[hzW,←hw2];exact b1.alloc b1.size _);clear b1 hw2 x0;go_upto_region 4 with(fail)
 rw[show w1.alloc (.cells #[iv 0,iv 0,iv 0,iv 0] NT)=w2 from HW2.o];have x0:=(Qd (Qc HPB.o B2.o ZO)).1 0;simp at x0;go_wp2_with fail;refine(KL.o w2 (BW.o.trans (B2.o.mono ZO))).mono ?_;rintro e w3 ⟨lv,rfl,ho,b3⟩;obtain⟨la,lc,rfl,-⟩:=ho.at_.cell;have HNA:=Zh ho.at_;rw[HNP.o] at HNA ⊢;obtain⟨X,hX⟩:=Ze (QB p 0);have HXX:=Zh hX;rw[hX] at HNA HLE KS ⊢;obtain⟨m,hm⟩:=Ze X.length;have HM:=Zh hm;have hm256:m≤256:=by rw[←hm];exact HLE.o
 rw[hm] at HNA ⊢;obtain⟨q3,hq3⟩:=Ze w3.heap.size;have B3:=Zh (show Below (z+2) W w3 from B2.o.trans (b3.mono (by have:=B2.o.size;omega)));have hq2:z+2≤q3:=by have:=B3.o.size;omega
 have hbq:Base.b≤q3:=by omega
 have HQ3:=Zh hq3;clear ho b3 x0 hX hm;have hmk:=fun (x:World)=>Qak m ZO x
 go_upto_region 5 with(fail)
 go_cut [7] from 22 to 30 (fun s7 wx=>∃gb sb pb:Nat,s7=.pointer (some ⟨gb,0,none⟩)∧Hid (BuR q3 gb sb pb m (.slice la m lc) w3 wx []))
 case first=>
  refine QK (S:=fun _=>True) (st:=9) ZK ?_;obtain⟨X0_,hX0⟩:=Ze (w3.drewN 1);rw[hX0];have HX0:=Zh (show Below q3 w3 X0_ by rw[←hX0];exact Qp (Below.refl _ _) 1);clear hX0;have hS0:(fun _:World=>True) X0_:=trivial;refine Yd 0 22 (hrun:=by intro w hS;go_simp;rfl) ?_;refine Yd 1 23 (hrun:=by intro w hS;go_simp;rfl) ?_;refine Yd 2 24 (hrun:=by intro w hS;go_simp;rfl) ?_;refine Yd 4 26 (hrun:=by intro w hS;go_simp;rfl) ?_;refine Yd 5 27 (hrun:=by intro w hS;go_simp;rfl) ?_;refine Qh (rs:=[3,6,8]) ZK ZD ?_;intro j hj;have hj2:j=3∨j=6∨j=8:=by simpa using hj
  clear hj;rcases hj2 with rfl|rfl|rfl
  ·obtain⟨sb,hsb⟩:=Ze X0_.heap.size;obtain⟨X1_,hW1⟩:=Ze (X0_.alloc (.cells (rz m) IT));refine Qs 3 (some 25) (.slice (some ⟨sb,0,none⟩) m m) X1_ rfl ZK ?u6 rfl ?_
   case u6=>rw[←hW1,←hsb];try go_simp
   have HX1:=Zh (show Below q3 w3 X1_ by rw[←hW1];exact HX0.o.alloc (by have:=HX0.o.size;omega) _);have zsb:q3≤sb:=by have:=HX0.o.size;omega
   have sb1F:=Zh (show X1_.heap[sb]? = some (.cells (rz m) IT (0,0)) by rw[←hW1,←hsb];exact heap_alloc_new _ _);clear hsb hW1;refine⟨fun _=>trivial,?_⟩;refine Qh (rs:=[6,8]) ZK ZD ?_;intro j hj;have hj2:j=6∨j=8:=by simpa using hj
   clear hj;rcases hj2 with rfl|rfl
   ·obtain⟨pb,hpb⟩:=Ze X1_.heap.size;obtain⟨X2_,hW2⟩:=Ze (X1_.alloc (.cells (rz m) IT));refine Qs 6 (some 28) (.slice (some ⟨pb,0,none⟩) m m) X2_ rfl ZK ?u7 rfl ?_
    case u7=>rw[←hW2,←hpb];try go_simp
    have HX2:=Zh (show Below q3 w3 X2_ by rw[←hW2];exact HX1.o.alloc (by have:=HX1.o.size;omega) _);have zpb:q3≤pb:=by have:=HX1.o.size;omega
    have sb2F:=Zh (show X2_.heap[sb]? = some (.cells (rz m) IT (0,0)) by rw[←hW2];exact Qz _ sb1F.o);have nsbpb:sb≠pb:=by have:=Qb sb1F.o;omega
    have pb2F:=Zh (show X2_.heap[pb]? = some (.cells (rz m) IT (0,0)) by rw[←hW2,←hpb];exact heap_alloc_new _ _);clear hpb hW2;refine⟨fun _=>trivial,?_⟩;refine Yd 7 29 (hrun:=by intro w hS;go_simp;rfl) ?_;refine Zt 8 ?_;obtain⟨gb,hgb⟩:=Ze X2_.heap.size;obtain⟨X3_,hW3⟩:=Ze (X2_.alloc (.cells #[.slice none 0 0,.slice none 0 0,.slice none 0 0] GRT));refine Qs 8 (some 7) (.pointer (some ⟨gb,0,none⟩)) X3_ rfl ZK ?u9 rfl ?_
    case u9=>rw[←hW3,←hgb];try go_simp
    have HX3:=Zh (show Below q3 w3 X3_ by rw[←hW3];exact HX2.o.alloc (by have:=HX2.o.size;omega) _);have zgb:q3≤gb:=by have:=HX2.o.size;omega
    have sb3F:=Zh (show X3_.heap[sb]? = some (.cells (rz m) IT (0,0)) by rw[←hW3];exact Qz _ sb2F.o);have nsbgb:sb≠gb:=by have:=Qb sb2F.o;omega
    have pb3F:=Zh (show X3_.heap[pb]? = some (.cells (rz m) IT (0,0)) by rw[←hW3];exact Qz _ pb2F.o);have npbgb:pb≠gb:=by have:=Qb pb2F.o;omega
    have gb3F:=Zh (show X3_.heap[gb]? = some (.cells #[.slice none 0 0,.slice none 0 0,.slice none 0 0] GRT (0,0)) by rw[←hW3,←hgb];exact heap_alloc_new _ _);clear hgb hW3;refine⟨fun _=>trivial,?_⟩;refine Zt 9 ?_;obtain⟨g0,g1,g2⟩:=QHi gb3F.o;have f0:=(Qa gb3F.o).2 0;have f1:=(Qa gb3F.o).2 1;have f2:=(Qa gb3F.o).2 2;obtain⟨Y_,hY⟩:=Ze ((((X3_.setCell ⟨gb,0,none⟩ (.slice la m lc)).setCell ⟨gb,1,none⟩ (.slice (some ⟨sb,0,none⟩) m m)).setCell ⟨gb,2,none⟩ (.slice (some ⟨pb,0,none⟩) m m)));refine QQ 9 none Y_ rfl ZK ?u10 rfl ?_
    case u10=>rw[←hY];try go_simp
    have BR:=Zh (BuR.start (nv:=.slice la m lc) ⟨by omega,hbq⟩ HX3.o sb3F.o pb3F.o gb3F.o ⟨by omega,by omega,by omega,by omega,by omega,by omega⟩ hY);clear g0 g1 g2 f0 f1 f2 hY;refine⟨fun h=>absurd rfl h,?_⟩;refine Qu ZK ?_ _;generalize hA:Act.put _ _ _=A0;simp only[Qba,Qaa,Zu,Zv,Zw] at hA;subst hA;clear hS0;go_wp2;go_meet
    case rel=>exact⟨gb,sb,pb,rfl,BR.o⟩
   ·obtain⟨gb,hgb⟩:=Ze X1_.heap.size;obtain⟨X2_,hW2⟩:=Ze (X1_.alloc (.cells #[.slice none 0 0,.slice none 0 0,.slice none 0 0] GRT));refine Qs 8 (some 7) (.pointer (some ⟨gb,0,none⟩)) X2_ rfl ZK ?u11 rfl ?_
    case u11=>rw[←hW2,←hgb];try go_simp
    have HX2:=Zh (show Below q3 w3 X2_ by rw[←hW2];exact HX1.o.alloc (by have:=HX1.o.size;omega) _);have zgb:q3≤gb:=by have:=HX1.o.size;omega
    have sb2F:=Zh (show X2_.heap[sb]? = some (.cells (rz m) IT (0,0)) by rw[←hW2];exact Qz _ sb1F.o);have nsbgb:sb≠gb:=by have:=Qb sb1F.o;omega
    have gb2F:=Zh (show X2_.heap[gb]? = some (.cells #[.slice none 0 0,.slice none 0 0,.slice none 0 0] GRT (0,0)) by rw[←hW2,←hgb];exact heap_alloc_new _ _);clear hgb hW2;refine⟨fun _=>trivial,?_⟩;refine Zt 6 ?_;obtain⟨pb,hpb⟩:=Ze X2_.heap.size;obtain⟨X3_,hW3⟩:=Ze (X2_.alloc (.cells (rz m) IT));refine Qs 6 (some 28) (.slice (some ⟨pb,0,none⟩) m m) X3_ rfl ZK ?u12 rfl ?_
    case u12=>rw[←hW3,←hpb];try go_simp
    have HX3:=Zh (show Below q3 w3 X3_ by rw[←hW3];exact HX2.o.alloc (by have:=HX2.o.size;omega) _);have zpb:q3≤pb:=by have:=HX2.o.size;omega
    have sb3F:=Zh (show X3_.heap[sb]? = some (.cells (rz m) IT (0,0)) by rw[←hW3];exact Qz _ sb2F.o);have nsbpb:sb≠pb:=by have:=Qb sb2F.o;omega
    have gb3F:=Zh (show X3_.heap[gb]? = some (.cells #[.slice none 0 0,.slice none 0 0,.slice none 0 0] GRT (0,0)) by rw[←hW3];exact Qz _ gb2F.o);have ngbpb:gb≠pb:=by have:=Qb gb2F.o;omega
    have pb3F:=Zh (show X3_.heap[pb]? = some (.cells (rz m) IT (0,0)) by rw[←hW3,←hpb];exact heap_alloc_new _ _);clear hpb hW3;refine⟨fun _=>trivial,?_⟩;refine Yd 7 29 (hrun:=by intro w hS;go_simp;rfl) ?_;refine Zt 9 ?_;obtain⟨g0,g1,g2⟩:=QHi gb3F.o;have f0:=(Qa gb3F.o).2 0;have f1:=(Qa gb3F.o).2 1;have f2:=(Qa gb3F.o).2 2;obtain⟨Y_,hY⟩:=Ze ((((X3_.setCell ⟨gb,0,none⟩ (.slice la m lc)).setCell ⟨gb,1,none⟩ (.slice (some ⟨sb,0,none⟩) m m)).setCell ⟨gb,2,none⟩ (.slice (some ⟨pb,0,none⟩) m m)));refine QQ 9 none Y_ rfl ZK ?u14 rfl ?_
    case u14=>rw[←hY];try go_simp
    have BR:=Zh (BuR.start (nv:=.slice la m lc) ⟨by omega,hbq⟩ HX3.o sb3F.o pb3F.o gb3F.o ⟨by omega,by omega,by omega,by omega,by omega,by omega⟩ hY);clear g0 g1 g2 f0 f1 f2 hY;refine⟨fun h=>absurd rfl h,?_⟩;refine Qu ZK ?_ _;generalize hA:Act.put _ _ _=A0;simp only[Qba,Qaa,Zu,Zv,Zw] at hA;subst hA;clear hS0;go_wp2;go_meet
    case rel=>exact⟨gb,sb,pb,rfl,BR.o⟩
  ·obtain⟨pb,hpb⟩:=Ze X0_.heap.size;obtain⟨X1_,hW1⟩:=Ze (X0_.alloc (.cells (rz m) IT));refine Qs 6 (some 28) (.slice (some ⟨pb,0,none⟩) m m) X1_ rfl ZK ?u15 rfl ?_
   case u15=>rw[←hW1,←hpb];try go_simp
   have HX1:=Zh (show Below q3 w3 X1_ by rw[←hW1];exact HX0.o.alloc (by have:=HX0.o.size;omega) _);have zpb:q3≤pb:=by have:=HX0.o.size;omega
   have pb1F:=Zh (show X1_.heap[pb]? = some (.cells (rz m) IT (0,0)) by rw[←hW1,←hpb];exact heap_alloc_new _ _);clear hpb hW1;refine⟨fun _=>trivial,?_⟩;refine Qh (rs:=[3,8]) ZK ZD ?_;intro j hj;have hj2:j=3∨j=8:=by simpa using hj
   clear hj;rcases hj2 with rfl|rfl
   ·obtain⟨sb,hsb⟩:=Ze X1_.heap.size;obtain⟨X2_,hW2⟩:=Ze (X1_.alloc (.cells (rz m) IT));refine Qs 3 (some 25) (.slice (some ⟨sb,0,none⟩) m m) X2_ rfl ZK ?u16 rfl ?_
    case u16=>rw[←hW2,←hsb];try go_simp
    have HX2:=Zh (show Below q3 w3 X2_ by rw[←hW2];exact HX1.o.alloc (by have:=HX1.o.size;omega) _);have zsb:q3≤sb:=by have:=HX1.o.size;omega
    have pb2F:=Zh (show X2_.heap[pb]? = some (.cells (rz m) IT (0,0)) by rw[←hW2];exact Qz _ pb1F.o);have npbsb:pb≠sb:=by have:=Qb pb1F.o;omega
    have sb2F:=Zh (show X2_.heap[sb]? = some (.cells (rz m) IT (0,0)) by rw[←hW2,←hsb];exact heap_alloc_new _ _);clear hsb hW2;refine⟨fun _=>trivial,?_⟩;refine Yd 7 29 (hrun:=by intro w hS;go_simp;rfl) ?_;refine Zt 8 ?_;obtain⟨gb,hgb⟩:=Ze X2_.heap.size;obtain⟨X3_,hW3⟩:=Ze (X2_.alloc (.cells #[.slice none 0 0,.slice none 0 0,.slice none 0 0] GRT));refine Qs 8 (some 7) (.pointer (some ⟨gb,0,none⟩)) X3_ rfl ZK ?u18 rfl ?_
    case u18=>rw[←hW3,←hgb];try go_simp
    have HX3:=Zh (show Below q3 w3 X3_ by rw[←hW3];exact HX2.o.alloc (by have:=HX2.o.size;omega) _);have zgb:q3≤gb:=by have:=HX2.o.size;omega
    have pb3F:=Zh (show X3_.heap[pb]? = some (.cells (rz m) IT (0,0)) by rw[←hW3];exact Qz _ pb2F.o);have npbgb:pb≠gb:=by have:=Qb pb2F.o;omega
    have sb3F:=Zh (show X3_.heap[sb]? = some (.cells (rz m) IT (0,0)) by rw[←hW3];exact Qz _ sb2F.o);have nsbgb:sb≠gb:=by have:=Qb sb2F.o;omega
    have gb3F:=Zh (show X3_.heap[gb]? = some (.cells #[.slice none 0 0,.slice none 0 0,.slice none 0 0] GRT (0,0)) by rw[←hW3,←hgb];exact heap_alloc_new _ _);clear hgb hW3;refine⟨fun _=>trivial,?_⟩;refine Zt 9 ?_;obtain⟨g0,g1,g2⟩:=QHi gb3F.o;have f0:=(Qa gb3F.o).2 0;have f1:=(Qa gb3F.o).2 1;have f2:=(Qa gb3F.o).2 2;obtain⟨Y_,hY⟩:=Ze ((((X3_.setCell ⟨gb,0,none⟩ (.slice la m lc)).setCell ⟨gb,1,none⟩ (.slice (some ⟨sb,0,none⟩) m m)).setCell ⟨gb,2,none⟩ (.slice (some ⟨pb,0,none⟩) m m)));refine QQ 9 none Y_ rfl ZK ?u19 rfl ?_
    case u19=>rw[←hY];try go_simp
    have BR:=Zh (BuR.start (nv:=.slice la m lc) ⟨by omega,hbq⟩ HX3.o sb3F.o pb3F.o gb3F.o ⟨by omega,by omega,by omega,by omega,by omega,by omega⟩ hY);clear g0 g1 g2 f0 f1 f2 hY;refine⟨fun h=>absurd rfl h,?_⟩;refine Qu ZK ?_ _;generalize hA:Act.put _ _ _=A0;simp only[Qba,Qaa,Zu,Zv,Zw] at hA;subst hA;clear hS0;go_wp2;go_meet
    case rel=>exact⟨gb,sb,pb,rfl,BR.o⟩
   ·obtain⟨gb,hgb⟩:=Ze X1_.heap.size;obtain⟨X2_,hW2⟩:=Ze (X1_.alloc (.cells #[.slice none 0 0,.slice none 0 0,.slice none 0 0] GRT));refine Qs 8 (some 7) (.pointer (some ⟨gb,0,none⟩)) X2_ rfl ZK ?u20 rfl ?_
    case u20=>rw[←hW2,←hgb];try go_simp
    have HX2:=Zh (show Below q3 w3 X2_ by rw[←hW2];exact HX1.o.alloc (by have:=HX1.o.size;omega) _);have zgb:q3≤gb:=by have:=HX1.o.size;omega
    have pb2F:=Zh (show X2_.heap[pb]? = some (.cells (rz m) IT (0,0)) by rw[←hW2];exact Qz _ pb1F.o);have npbgb:pb≠gb:=by have:=Qb pb1F.o;omega
    have gb2F:=Zh (show X2_.heap[gb]? = some (.cells #[.slice none 0 0,.slice none 0 0,.slice none 0 0] GRT (0,0)) by rw[←hW2,←hgb];exact heap_alloc_new _ _);clear hgb hW2;refine⟨fun _=>trivial,?_⟩;refine Zt 3 ?_;obtain⟨sb,hsb⟩:=Ze X2_.heap.size;obtain⟨X3_,hW3⟩:=Ze (X2_.alloc (.cells (rz m) IT));refine Qs 3 (some 25) (.slice (some ⟨sb,0,none⟩) m m) X3_ rfl ZK ?u21 rfl ?_
    case u21=>rw[←hW3,←hsb];try go_simp
    have HX3:=Zh (show Below q3 w3 X3_ by rw[←hW3];exact HX2.o.alloc (by have:=HX2.o.size;omega) _);have zsb:q3≤sb:=by have:=HX2.o.size;omega
    have pb3F:=Zh (show X3_.heap[pb]? = some (.cells (rz m) IT (0,0)) by rw[←hW3];exact Qz _ pb2F.o);have npbsb:pb≠sb:=by have:=Qb pb2F.o;omega
    have gb3F:=Zh (show X3_.heap[gb]? = some (.cells #[.slice none 0 0,.slice none 0 0,.slice none 0 0] GRT (0,0)) by rw[←hW3];exact Qz _ gb2F.o);have ngbsb:gb≠sb:=by have:=Qb gb2F.o;omega
    have sb3F:=Zh (show X3_.heap[sb]? = some (.cells (rz m) IT (0,0)) by rw[←hW3,←hsb];exact heap_alloc_new _ _);clear hsb hW3;refine⟨fun _=>trivial,?_⟩;refine Yd 7 29 (hrun:=by intro w hS;go_simp;rfl) ?_;refine Zt 9 ?_;obtain⟨g0,g1,g2⟩:=QHi gb3F.o;have f0:=(Qa gb3F.o).2 0;have f1:=(Qa gb3F.o).2 1;have f2:=(Qa gb3F.o).2 2;obtain⟨Y_,hY⟩:=Ze ((((X3_.setCell ⟨gb,0,none⟩ (.slice la m lc)).setCell ⟨gb,1,none⟩ (.slice (some ⟨sb,0,none⟩) m m)).setCell ⟨gb,2,none⟩ (.slice (some ⟨pb,0,none⟩) m m)));refine QQ 9 none Y_ rfl ZK ?u23 rfl ?_
    case u23=>rw[←hY];try go_simp
    have BR:=Zh (BuR.start (nv:=.slice la m lc) ⟨by omega,hbq⟩ HX3.o sb3F.o pb3F.o gb3F.o ⟨by omega,by omega,by omega,by omega,by omega,by omega⟩ hY);clear g0 g1 g2 f0 f1 f2 hY;refine⟨fun h=>absurd rfl h,?_⟩;refine Qu ZK ?_ _;generalize hA:Act.put _ _ _=A0;simp only[Qba,Qaa,Zu,Zv,Zw] at hA;subst hA;clear hS0;go_wp2;go_meet
    case rel=>exact⟨gb,sb,pb,rfl,BR.o⟩
  ·obtain⟨gb,hgb⟩:=Ze X0_.heap.size;obtain⟨X1_,hW1⟩:=Ze (X0_.alloc (.cells #[.slice none 0 0,.slice none 0 0,.slice none 0 0] GRT));refine Qs 8 (some 7) (.pointer (some ⟨gb,0,none⟩)) X1_ rfl ZK ?u24 rfl ?_
   case u24=>rw[←hW1,←hgb];try go_simp
   have HX1:=Zh (show Below q3 w3 X1_ by rw[←hW1];exact HX0.o.alloc (by have:=HX0.o.size;omega) _);have zgb:q3≤gb:=by have:=HX0.o.size;omega
   have gb1F:=Zh (show X1_.heap[gb]? = some (.cells #[.slice none 0 0,.slice none 0 0,.slice none 0 0] GRT (0,0)) by rw[←hW1,←hgb];exact heap_alloc_new _ _);clear hgb hW1;refine⟨fun _=>trivial,?_⟩;refine Qh (rs:=[3,6]) ZK ZD ?_;intro j hj;have hj2:j=3∨j=6:=by simpa using hj
   clear hj;rcases hj2 with rfl|rfl
   ·obtain⟨sb,hsb⟩:=Ze X1_.heap.size;obtain⟨X2_,hW2⟩:=Ze (X1_.alloc (.cells (rz m) IT));refine Qs 3 (some 25) (.slice (some ⟨sb,0,none⟩) m m) X2_ rfl ZK ?u25 rfl ?_
    case u25=>rw[←hW2,←hsb];try go_simp
    have HX2:=Zh (show Below q3 w3 X2_ by rw[←hW2];exact HX1.o.alloc (by have:=HX1.o.size;omega) _);have zsb:q3≤sb:=by have:=HX1.o.size;omega
    have gb2F:=Zh (show X2_.heap[gb]? = some (.cells #[.slice none 0 0,.slice none 0 0,.slice none 0 0] GRT (0,0)) by rw[←hW2];exact Qz _ gb1F.o);have ngbsb:gb≠sb:=by have:=Qb gb1F.o;omega
    have sb2F:=Zh (show X2_.heap[sb]? = some (.cells (rz m) IT (0,0)) by rw[←hW2,←hsb];exact heap_alloc_new _ _);clear hsb hW2;refine⟨fun _=>trivial,?_⟩;refine Zt 6 ?_;obtain⟨pb,hpb⟩:=Ze X2_.heap.size;obtain⟨X3_,hW3⟩:=Ze (X2_.alloc (.cells (rz m) IT));refine Qs 6 (some 28) (.slice (some ⟨pb,0,none⟩) m m) X3_ rfl ZK ?u26 rfl ?_
    case u26=>rw[←hW3,←hpb];try go_simp
    have HX3:=Zh (show Below q3 w3 X3_ by rw[←hW3];exact HX2.o.alloc (by have:=HX2.o.size;omega) _);have zpb:q3≤pb:=by have:=HX2.o.size;omega
    have gb3F:=Zh (show X3_.heap[gb]? = some (.cells #[.slice none 0 0,.slice none 0 0,.slice none 0 0] GRT (0,0)) by rw[←hW3];exact Qz _ gb2F.o);have ngbpb:gb≠pb:=by have:=Qb gb2F.o;omega
    have sb3F:=Zh (show X3_.heap[sb]? = some (.cells (rz m) IT (0,0)) by rw[←hW3];exact Qz _ sb2F.o);have nsbpb:sb≠pb:=by have:=Qb sb2F.o;omega
    have pb3F:=Zh (show X3_.heap[pb]? = some (.cells (rz m) IT (0,0)) by rw[←hW3,←hpb];exact heap_alloc_new _ _);clear hpb hW3;refine⟨fun _=>trivial,?_⟩;refine Yd 7 29 (hrun:=by intro w hS;go_simp;rfl) ?_;refine Zt 9 ?_;obtain⟨g0,g1,g2⟩:=QHi gb3F.o;have f0:=(Qa gb3F.o).2 0;have f1:=(Qa gb3F.o).2 1;have f2:=(Qa gb3F.o).2 2;obtain⟨Y_,hY⟩:=Ze ((((X3_.setCell ⟨gb,0,none⟩ (.slice la m lc)).setCell ⟨gb,1,none⟩ (.slice (some ⟨sb,0,none⟩) m m)).setCell ⟨gb,2,none⟩ (.slice (some ⟨pb,0,none⟩) m m)));refine QQ 9 none Y_ rfl ZK ?u28 rfl ?_
    case u28=>rw[←hY];try go_simp
    have BR:=Zh (BuR.start (nv:=.slice la m lc) ⟨by omega,hbq⟩ HX3.o sb3F.o pb3F.o gb3F.o ⟨by omega,by omega,by omega,by omega,by omega,by omega⟩ hY);clear g0 g1 g2 f0 f1 f2 hY;refine⟨fun h=>absurd rfl h,?_⟩;refine Qu ZK ?_ _;generalize hA:Act.put _ _ _=A0;simp only[Qba,Qaa,Zu,Zv,Zw] at hA;subst hA;clear hS0;go_wp2;go_meet
    case rel=>exact⟨gb,sb,pb,rfl,BR.o⟩
   ·obtain⟨pb,hpb⟩:=Ze X1_.heap.size;obtain⟨X2_,hW2⟩:=Ze (X1_.alloc (.cells (rz m) IT));refine Qs 6 (some 28) (.slice (some ⟨pb,0,none⟩) m m) X2_ rfl ZK ?u29 rfl ?_
    case u29=>rw[←hW2,←hpb];try go_simp
    have HX2:=Zh (show Below q3 w3 X2_ by rw[←hW2];exact HX1.o.alloc (by have:=HX1.o.size;omega) _);have zpb:q3≤pb:=by have:=HX1.o.size;omega
    have gb2F:=Zh (show X2_.heap[gb]? = some (.cells #[.slice none 0 0,.slice none 0 0,.slice none 0 0] GRT (0,0)) by rw[←hW2];exact Qz _ gb1F.o);have ngbpb:gb≠pb:=by have:=Qb gb1F.o;omega
    have pb2F:=Zh (show X2_.heap[pb]? = some (.cells (rz m) IT (0,0)) by rw[←hW2,←hpb];exact heap_alloc_new _ _);clear hpb hW2;refine⟨fun _=>trivial,?_⟩;refine Zt 3 ?_;obtain⟨sb,hsb⟩:=Ze X2_.heap.size;obtain⟨X3_,hW3⟩:=Ze (X2_.alloc (.cells (rz m) IT));refine Qs 3 (some 25) (.slice (some ⟨sb,0,none⟩) m m) X3_ rfl ZK ?u30 rfl ?_
    case u30=>rw[←hW3,←hsb];try go_simp
    have HX3:=Zh (show Below q3 w3 X3_ by rw[←hW3];exact HX2.o.alloc (by have:=HX2.o.size;omega) _);have zsb:q3≤sb:=by have:=HX2.o.size;omega
    have gb3F:=Zh (show X3_.heap[gb]? = some (.cells #[.slice none 0 0,.slice none 0 0,.slice none 0 0] GRT (0,0)) by rw[←hW3];exact Qz _ gb2F.o);have ngbsb:gb≠sb:=by have:=Qb gb2F.o;omega
    have pb3F:=Zh (show X3_.heap[pb]? = some (.cells (rz m) IT (0,0)) by rw[←hW3];exact Qz _ pb2F.o);have npbsb:pb≠sb:=by have:=Qb pb2F.o;omega
    have sb3F:=Zh (show X3_.heap[sb]? = some (.cells (rz m) IT (0,0)) by rw[←hW3,←hsb];exact heap_alloc_new _ _);clear hsb hW3;refine⟨fun _=>trivial,?_⟩;refine Yd 7 29 (hrun:=by intro w hS;go_simp;rfl) ?_;refine Zt 9 ?_;obtain⟨g0,g1,g2⟩:=QHi gb3F.o;have f0:=(Qa gb3F.o).2 0;have f1:=(Qa gb3F.o).2 1;have f2:=(Qa gb3F.o).2 2;obtain⟨Y_,hY⟩:=Ze ((((X3_.setCell ⟨gb,0,none⟩ (.slice la m lc)).setCell ⟨gb,1,none⟩ (.slice (some ⟨sb,0,none⟩) m m)).setCell ⟨gb,2,none⟩ (.slice (some ⟨pb,0,none⟩) m m)));refine QQ 9 none Y_ rfl ZK ?u32 rfl ?_
    case u32=>rw[←hY];try go_simp
    have BR:=Zh (BuR.start (nv:=.slice la m lc) ⟨by omega,hbq⟩ HX3.o sb3F.o pb3F.o gb3F.o ⟨by omega,by omega,by omega,by omega,by omega,by omega⟩ hY);clear g0 g1 g2 f0 f1 f2 hY;refine⟨fun h=>absurd rfl h,?_⟩;refine Qu ZK ?_ _;generalize hA:Act.put _ _ _=A0;simp only[Qba,Qaa,Zu,Zv,Zw] at hA;subst hA;clear hS0;go_wp2;go_meet
    case rel=>exact⟨gb,sb,pb,rfl,BR.o⟩
 case rest=>
  clear hmk;obtain⟨gb,sb,pb,rfl,HB0⟩:=hcut;go_wp2;go_loopw [8] (fun y wr=>∃i:Nat,i≤m∧y=.int .i64 i∧Hid (BuR q3 gb sb pb m (.slice la m lc) w3 wr (QEw p X i))) (fun y _=>m-(intOf y).toNat)
  case atStart=>exact⟨0,Nat.zero_le _,rfl,HB0.o⟩
  case round=>
   obtain⟨i,hi,rfl,HB⟩:=hrel;by_cases hlt:i<m;rotate_left
   ·obtain rfl:m=i:=by omega
    have HFI:=Zh (show Qwx (QEw p X m) m=Qkc p∧Qwx (Qxw (QEw p X m)) m=Qmc p by have h:=Qoy HER.o HXX.o;rw[HM.o] at h;exact h);have BX:=Zh (show Below (z+2) W wr from B3.o.trans (HB.o.below.mono hq2));have HR:=Zh (Qc HRB.o BX.o ZO);have SR:=Zh (HB.o.srow.rows (by unfold maxLen;omega));have PR:=Zh (HB.o.prow.rows (by unfold maxLen;omega));have NR:=Zh (show QJi wr (.slice la m lc) X from HNA.o.below (HQ3.o▸HB.o.below));obtain⟨g0,g1,g2⟩:=QHi HB.o.gbk;obtain⟨r0,r1,r2⟩:=QHi HR.o;have f0:=(Qa HR.o).2 0;have f1:=(Qa HR.o).2 1;have f2:=(Qa HR.o).2 2;have hgz:gb≠z+1:=by have:=HB.o.old;omega
    go_wp2;obtain⟨z0,z1,z2⟩:=QHi (QWt HR.o (.slice la m lc) (.slice (some ⟨sb,0,none⟩) m m) (.slice (some ⟨pb,0,none⟩) m m));have hTR:tyAt wr (z+1)=some GRT:=Qv HR.o ZO;obtain⟨V,hV⟩:=Ze (((wr.setCell ⟨z+1,0,none⟩ (.slice la m lc)).setCell ⟨z+1,1,none⟩ (.slice (some ⟨sb,0,none⟩) m m)).setCell ⟨z+1,2,none⟩ (.slice (some ⟨pb,0,none⟩) m m));have HSV:=Zh (show ∀T,T≠GRT→Qf T wr V from fun T hT=>by
     rw[←hV];exact((Qf.setCell (U:=GRT) hTR hT).trans (Qf.setCell (U:=GRT) ((QS _).trans hTR) hT)).trans (Qf.setCell (U:=GRT) ((QS _).trans ((QS _).trans hTR)) hT))
    have HBV:=Zh (show Below z w V by
     rw[←hV];exact((((BW.o.trans (BX.o.mono ZO)).setCell (p:=⟨z+1,0,none⟩) (by show z≤z+1;omega) _).setCell (p:=⟨z+1,1,none⟩) (by show z≤z+1;omega) _).setCell (p:=⟨z+1,2,none⟩) (by show z≤z+1;omega) _))
    rw[hV] at z0 z1 z2
    try rw[hV]
    refine bodyPost_ret (v:=.tuple #[.agg #[.slice la m lc,.slice (some ⟨sb,0,none⟩) m m,.slice (some ⟨pb,0,none⟩) m m],iv 0]) (by simp[results,Tryz.results17,go_sem,z0,z1,z2]) rfl ⟨_,_,_,by rw[HER.o],?_,?_,?_,?_⟩
    ·rw[HNP.o,HXX.o];exact NR.o.keep (HSV.o _ ZD)
    ·rw[←HFI.o.1];exact SR.o.keep fun U hU=>HSV.o U (Qzy hU)
    ·rw[←HFI.o.2];exact PR.o.keep fun U hU=>HSV.o U (Qzy hU)
    ·rw[HZ.o];exact HBV.o
   ·obtain⟨y,hy⟩:∃y,X[i]? = some y:=⟨_,List.getElem?_eq_getElem (by rw[HM.o];exact hlt)⟩;have BX:=Zh (show Below (z+2) W wr from B3.o.trans (HB.o.below.mono hq2));have HSI:=Zh (show sucI p X i=(Qmd p X y).map (idxI X) by unfold sucI;rw[hy]);have K:=Zh (KS.o (.slice la m lc) i y wr (BW.o.trans (BX.o.mono ZO)) (HNA.o.below (HQ3.o▸HB.o.below)) hy);rw[←HSI.o] at K;have HES:=Zh (Qhx p X i);have x0:=(Qd (Qc HPB.o BX.o ZO)).1 0;simp at x0;clear hy;go_wp2_with fail;refine K.o.mono ?_;rintro e w4 ⟨sv4,rfl,hsv,b4⟩;obtain⟨sa,sc,rfl,-,-,-,hsc⟩:=hsv.cell;obtain⟨sn,hsn⟩:=Ze ((sucI p X i).length);rw[hsn] at hsv ⊢;have HSN:=Zh hsn;have HS4:=Zh hsv;have HB4:=Zh (HB.o.next b4);have hsn3:sn≤300:=by rw[←hsn];exact Qky HCK.o HXX.o (by rw[HM.o];exact hm256)
    obtain⟨E0,hE0⟩:=Ze (QEw p X i);rw[hE0] at HB4 HES;have HE0:=Zh hE0;clear hsv b4 x0 hsn hE0 hsc K HB;go_wp2;go_loopw [10] (fun y wr=>∃k:Nat,k≤sn∧y=.int .i64 k∧Hid (BuR q3 gb sb pb m (.slice la m lc) w3 wr (E0++((sucI p X i).take k).map fun s=>((i:Int),s)))∧Hid (QJa wr (.slice sa sn sc) (sucI p X i))) (fun y _=>sn-(intOf y).toNat)
    case atStart=>exact⟨0,Nat.zero_le _,rfl,by unfold Hid;simpa using HB4.o,HS4.o⟩
    case round=>
     clear HB4 HS4;obtain⟨k,hk,rfl,HB,HSV⟩:=hrel;by_cases hlt2:k<sn;rotate_left
     ·have HF:=Zh (show BuR q3 gb sb pb m (.slice la m lc) w3 wr (QEw p X (i+1)) by
       rw[HES.o];have h:=HB.o;rw[List.take_of_length_le (by rw[HSN.o];omega)] at h;exact h)
      go_wp2;go_roundw
      case rel=>exact⟨i+1,by omega,by go_num,HF.o⟩
      case measure=>simp[intOf];omega
     obtain⟨xx,hxk⟩:∃x,(sucI p X i)[k]? = some x:=⟨_,List.getElem?_eq_getElem (by rw[HSN.o];exact hlt2)⟩;obtain⟨x,rfl,hxn,-⟩:=(QRw HCK.o HXX.o).1 (List.mem_of_getElem? hxk);rw[HM.o] at hxn;have HXK:=Zh hxk;have HEK:=Zh (show E0++((sucI p X i).take (k+1)).map (fun s=>((i:Int),s))=(E0++((sucI p X i).take k).map fun s=>((i:Int),s))++[((i:Int),(x:Int))] by rw[List.take_add_one,hxk];simp);have hbd:∀e∈E0++((sucI p X i).take k).map (fun s=>((i:Int),s)),(0≤e.1∧e.1<(m:Int))∧(0≤e.2∧e.2<(m:Int)):=fun e he=>by
      rw[←HE0.o] at he;rcases List.mem_append.1 he with he|he
      ·obtain⟨a,b,h1,h2,h3,h4,-⟩:=(QKw HCK.o HXX.o (a:=e.1) (b:=e.2)).1 he;rw[HM.o] at h4;omega
      ·obtain⟨s',hs',rfl⟩:=List.mem_map.1 he;obtain⟨b,h2,h4,-⟩:=(QRw HCK.o HXX.o).1 (List.mem_of_mem_take hs');rw[HM.o] at h4;dsimp only;omega
     obtain⟨E,hE⟩:=Ze (E0++((sucI p X i).take k).map (fun s=>((i:Int),s)));rw[hE] at HB HEK hbd;have HRL:=Zh (Qxx (n:=m) (E:=E) (fun e he=>(hbd e he).2) (i:Int));have HRL2:=Zh (Qxx (n:=m) (E:=Qxw E) (fun e he=>(hbd (e.2,e.1) (Qnx.1 he)).1) (x:Int));obtain⟨ua,un,uc,x1,hui,-⟩:=HB.o.srow.cell hlt;have HUI:=Zh hui;obtain⟨tb,to_,rfl,htb,x2⟩:∃b o,sa=some ⟨b,o,none⟩∧b<wr.heap.size∧wr.cell? ⟨b,o+k,none⟩=some (iv (x:Nat)):=by
      obtain⟨a',c',e,-,-,-,hc'⟩:=HSV.o.cell;injection e with e
      subst e;obtain⟨b,o,e,h6,h5⟩:=hc' k _ hxk;exact⟨b,o,e,h6,h5⟩
     have j1:(i:Int)<(m:Int):=by omega
     have j2:(k:Int)<(sn:Int):=by omega
     have j3:(x:Int)<(m:Int):=by omega
     have j4:(0:Int)≤(i:Int):=by omega
     have j5:(0:Int)≤(k:Int):=by omega
     have j6:(0:Int)≤(x:Int):=by omega
     clear hxk hbd hE hui;go_upto_region 13 with(fail)
     refine Zr (fun w'=>w'.cell? ⟨gb,1,none⟩=some (.slice (some ⟨sb,0,none⟩) m m)∧w'.cell? ⟨sb,i,none⟩=some (.slice ua un uc)∧w'.cell? ⟨tb,to_+k,none⟩=some (iv (x:Nat))) 14 (⟨(QHi HB.o.gbk).2.1,x1,x2⟩) fun hS0=>?_
     refine Yd 0 46 ?_;refine Yd 1 47 ?_;refine Yd 2 48 ?_;refine Yd 3 49 ?_;refine Yd 4 50 ?_;refine Yd 5 51 ?_;refine Yd 6 52 ?_;refine Yd 7 53 ?_;refine Yd 8 54 ?_;refine Yd 9 55 ?_;refine Yd 10 56 ?_;refine Yd 11 57 ?_;refine QP 12 (some 58) 65 #[.slice ua un uc,iv (x:Nat)] rfl ZK ZK ZK rfl ?_;refine(Qyo (rowA E (i:Int)) (x:Int) (.slice ua un uc) (wr.drewN 1) (HUI.o.keep (Qf.below (Qp (Below.refl wr.heap.size wr) 1))) (QFw _ _) (by have:=HRL.o;omega) (by show Base.b≤wr.heap.size;have:=HB.o.zs.2;have:=HB.o.below.size;have:=HB.o.zs.1;omega)).mono ?_;rintro e w5 ⟨u5,rfl,hu5,b5⟩;obtain⟨ua5,uc5,rfl,-⟩:=hu5.1.cell;obtain⟨un5,hun5⟩:=Ze ((insI (rowA E (i:Int)) (x:Int)).length);rw[hun5] at hu5;have HB5:=Zh (HB.o.next ((Qp (Below.refl wr.heap.size wr) 1).trans b5));have HU5:=Zh hu5;have HS5:=Zh (show QJa w5 (.slice (some ⟨tb,to_,none⟩) sn sc) (sucI p X i) from Qg.same (w':=w5) HSV.o (Qf.below ((Qp (Below.refl wr.heap.size wr) 1).trans b5)));have hs1:=hS0.2.2;have hS1:(fun w':World=>w'.cell? ⟨gb,1,none⟩=some (.slice (some ⟨sb,0,none⟩) m m)∧w'.cell? ⟨sb,i,none⟩=some (.slice ua un uc)∧w'.cell? ⟨tb,to_+k,none⟩=some (iv (x:Nat))) w5:=⟨(QHi HB5.o.gbk).2.1,(World.cell?_of_block (a:=⟨sb,i,none⟩) (b5.block sb HB.o.lt.2.1)).trans hS0.2.1,(b5.cell (p:=⟨tb,to_+k,none⟩) (show tb<wr.heap.size from htb)).trans hS0.2.2⟩;have fz:=(HB5.o.srow.cell hlt).choose_spec.choose_spec.choose_spec.2.2;rw[hun5];clear hS0 hu5 b5 hs1 hun5;have hS0:=hS1;clear hS1;refine⟨_,rfl,fun _=>hS0,?_⟩;refine Yd 13 59 ?_;refine Qeb 14 none (w5.setCell ⟨sb,i,none⟩ (.slice ua5 un5 uc5)) rfl ZK ZK ?rs13 rfl (fun h=>absurd rfl h) ?_
     case rs13=>go_simp
     refine Qu ZK ?_ _;generalize hA:Act.put _ _ _=A0;simp only[Qba,Qaa,Zu,Zv,Zw] at hA;subst hA;obtain⟨h1,h2,h3,h4,h5⟩:=HB5.o.edge (m:=x) hlt HU5.o;obtain⟨w6,hw6⟩:=Ze (w5.setCell ⟨sb,i,none⟩ (.slice ua5 un5 uc5));rw[hw6] at h1 h2 h3 h4 h5 ⊢;have H1:=Zh h1;have H2:=Zh h2;have H3:=Zh h3;have H4:=Zh h4;have HS6:=Zh (show QJa w6 (.slice (some ⟨tb,to_,none⟩) sn sc) (sucI p X i) from Qg.same HS5.o h5);clear hw6 h1 h2 h3 h4 h5 hS0 fz;obtain⟨va,vn,vc,y1,hvi,f14⟩:=H2.o.cell hxn;have HVI:=Zh hvi;obtain⟨-,-,y0⟩:=QHi H3.o;obtain⟨tb',to',e,htb6,y2⟩:∃b o,(some ⟨tb,to_,none⟩:Option Addr)=some ⟨b,o,none⟩∧b<w6.heap.size∧w6.cell? ⟨b,o+k,none⟩=some (iv (x:Nat)):=by
      obtain⟨a',c',e,-,-,-,hc'⟩:=HS6.o.cell;injection e with e
      subst e;obtain⟨b,o,e,h6,h5⟩:=hc' k _ HXK.o;exact⟨b,o,e,h6,h5⟩
     injection e with e
     injection e with e1 e2
     subst e1 e2;clear hvi;go_upto_region 14 with(fail)
     refine Zr (fun w'=>w'.cell? ⟨gb,2,none⟩=some (.slice (some ⟨pb,0,none⟩) m m)∧w'.cell? ⟨pb,x,none⟩=some (.slice va vn vc)∧w'.cell? ⟨tb,to_+k,none⟩=some (iv (x:Nat))) 17 (⟨y0,y1,y2⟩) fun hS0=>?_
     refine Yd 0 60 ?_;refine Yd 1 61 ?_;refine Yd 2 62 ?_;refine Yd 3 63 ?_;refine Yd 4 64 ?_;refine Yd 5 65 ?_;refine Yd 6 66 ?_;refine Yd 7 67 ?_;refine Yd 8 68 ?_;refine Yd 9 69 ?_;refine Yd 10 70 ?_;refine Yd 11 71 ?_;refine Yd 12 72 ?_;refine Yd 13 73 ?_;refine Yd 14 74 ?_;refine QP 15 (some 75) 65 #[.slice va vn vc,iv (i:Nat)] rfl ZK ZK ZK rfl ?_;refine(Qyo (rowA (Qxw E) (x:Int)) (i:Int) (.slice va vn vc) (w6.drewN 1) (HVI.o.keep (Qf.below (Qp (Below.refl w6.heap.size w6) 1))) (QFw _ _) (by have:=HRL2.o;omega) (by show Base.b≤w6.heap.size;have:=HB.o.zs.2;have:=H4.o.size;have:=HB.o.zs.1;omega)).mono ?_;rintro e w7 ⟨u7,rfl,hu7,b7⟩;obtain⟨ua7,uc7,rfl,-⟩:=hu7.1.cell;obtain⟨un7,hun7⟩:=Ze ((insI (rowA (Qxw E) (x:Int)) (i:Int)).length);rw[hun7] at hu7;have C7:=Zh (show Below w6.heap.size w6 w7 from(Qp (Below.refl w6.heap.size w6) 1).trans b7);obtain⟨_,_,k1,_⟩:=id H1.o;obtain⟨_,_,k2,_⟩:=id H2.o;have J1:=Zh (H1.o.keep (C7.o.block sb (Qb k1)) (Qf.below C7.o));have J2:=Zh (H2.o.keep (C7.o.block pb (Qb k2)) (Qf.below C7.o));have J3:=Zh ((C7.o.block gb (Qb H3.o)).trans H3.o);have J4:=Zh (H4.o.trans (C7.o.mono (by have:=H4.o.size;have:=HB.o.zs.1;omega)));have HU7:=Zh hu7;have HS7:=Zh (show QJa w7 (.slice (some ⟨tb,to_,none⟩) sn sc) (sucI p X i) from Qg.same (w':=w7) HS6.o (Qf.below C7.o));have hS1:(fun w':World=>w'.cell? ⟨gb,2,none⟩=some (.slice (some ⟨pb,0,none⟩) m m)∧w'.cell? ⟨pb,x,none⟩=some (.slice va vn vc)∧w'.cell? ⟨tb,to_+k,none⟩=some (iv (x:Nat))) w7:=⟨(QHi J3.o).2.2,(World.cell?_of_block (a:=⟨pb,x,none⟩) (C7.o.block pb (Qb k2))).trans hS0.2.1,(C7.o.cell (p:=⟨tb,to_+k,none⟩) htb6).trans hS0.2.2⟩;have fz:=(J2.o.cell hxn).choose_spec.choose_spec.choose_spec.2.2;rw[hun7];clear hS0 hu7 b7 hun7 k1 k2;have hS0:=hS1;clear hS1;refine⟨_,rfl,fun _=>hS0,?_⟩;refine Yd 16 76 ?_;refine Qeb 17 none (w7.setCell ⟨pb,x,none⟩ (.slice ua7 un7 uc7)) rfl ZK ZK ?rs14 rfl (fun h=>absurd rfl h) ?_
     case rs14=>go_simp
     refine Qu ZK ?_ _;generalize hA:Act.put _ _ _=A0;simp only[Qba,Qaa,Zu,Zv,Zw] at hA;subst hA;have HF:=Zh (BuR.edge2 HB.o.zs HB.o.old J1.o J2.o J3.o J4.o hxn HU7.o);obtain⟨w8,hw8⟩:=Ze (w7.setCell ⟨pb,x,none⟩ (.slice ua7 un7 uc7));rw[hw8] at HF ⊢;have HS8:=Zh (show QJa w8 (.slice (some ⟨tb,to_,none⟩) sn sc) (sucI p X i) from Qg.same HS7.o HF.o.2);clear hw8 hS0 fz y0 y1 y2 f14;go_wp2;go_roundw
     case rel=>exact⟨k+1,by omega,by go_num,by rw[HEK.o];exact HF.o.1,HS8.o⟩
     case measure=>simp[intOf];omega
end
section
open Go.RowKit
variable [Base]
def Qhj (s t:QSet):Bool:=decide (s.width=t.width)&&decide (s.words=t.words)
theorem Qpk (s t:QSet)(u1 u2:Value)(w:World)(h1:Qi w u1 s.words)(h2:Qi w u2 t.words):Calls Tryz.prog 75 #[setV s u1,setV t u2] w (Qia (Qhj s t) w):=by
 have hud:∀b:Bool,(undef=Value.bool b)=False:=fun b=>by simp[undef]
 obtain⟨d,hd⟩:=Ze (Qhj s t);rw[hd];unfold Qhj at hd;have HD:=Zh hd;obtain⟨a1,c1,rfl,hm,-,-,hk1⟩:=h1.cell;obtain⟨a2,c2,rfl,-,-,-,hk2⟩:=h2.cell;obtain⟨n1,hn1⟩:=Ze s.words.length;obtain⟨n2,hn2⟩:=Ze t.words.length;rw[hn1] at hm h1 ⊢;rw[hn2] at h2 ⊢;obtain⟨W,hW⟩:=Ze ((w.alloc (.cells #[.int .i64 s.width,.slice a1 n1 c1] 52)).alloc (.cells #[.int .i64 t.width,.slice a2 n2 c2] 52));have B0:Below w.heap.size w W:=by rw[←hW];exact(Zb).alloc ZS _
 have HB1:W.heap[w.heap.size]? = some (.cells #[.int .i64 s.width,.slice a1 n1 c1] 52 (0,0)):=by rw[←hW];exact Qz _ (heap_alloc_new _ _)
 have HB2:W.heap[w.heap.size+1]? = some (.cells #[.int .i64 t.width,.slice a2 n2 c2] 52 (0,0)):=by rw[←hW];exact Qda _ _
 have H1:=Zh HB1;have H2:=Zh HB2;have HW:=Zh hW;have BB:=Zh B0;have R1:=Zh (h1.below B0);have R2:=Zh (h2.below B0);have HK1:=Zh hk1;have HK2:=Zh hk2;have HN1:=Zh hn1;have HN2:=Zh hn2;unfold maxLen at hm;clear hW HB1 HB2 B0 hn1 hn2 h1 h2 hk1 hk2 hd R1 R2;by_cases hw:s.width=t.width;rotate_left
 ·obtain rfl:d=false:=by rw[←HD.o];simp[hw]
  have q1:(s.width != t.width)=true:=by simpa using hw
  clear hw;go_enter Tryz.func75,Tryz.ntmps75;go_wp2;go_ret;exact⟨rfl,by rw[HW.o];exact BB.o⟩
 have q1:(s.width != t.width)=false:=by simpa using hw
 by_cases hl:n1=n2;rotate_left
 ·obtain rfl:d=false:=by
   rw[←HD.o];have:s.words≠t.words:=fun e=>hl (by rw[←HN1.o,←HN2.o,e])
   simp[this]
  have q2:((n1:Int) !=(n2:Int))=true:=by simp;omega
  clear hw hl;go_enter Tryz.func75,Tryz.ntmps75;go_wp2;go_ret;exact⟨rfl,by rw[HW.o];exact BB.o⟩
 subst hl;have HD2:=Zh (show decide (s.words=t.words)=d by rw[←HD.o];simp[hw]);have q2:((n1:Int) !=(n1:Int))=false:=by simp
 clear hw HD;go_enter Tryz.func75,Tryz.ntmps75;go_wp2_with fail;rw[show(w.alloc (.cells #[.int .i64 s.width,.slice a1 n1 c1] 52)).alloc (.cells #[.int .i64 t.width,.slice a2 n1 c2] 52)=W from HW.o];go_loopw [5] (fun y wr=>∃i:Nat,i≤n1∧y=.int .i64 i∧Hid (s.words.take i=t.words.take i)∧Hid (Below W.heap.size W wr)) (fun y _=>n1-(intOf y).toNat)
 case atStart=>exact⟨0,Nat.zero_le _,rfl,rfl,Below.refl _ _⟩
 case round=>
  obtain⟨i,hi,rfl,HE,HB⟩:=hrel;have G:=Zh (Qc H1.o HB.o (Qb H1.o));have K:=Zh (Qc H2.o HB.o (Qb H2.o));have x0:=(Qa G.o).1 0;have x1:=(Qa G.o).1 1;have y0:=(Qa K.o).1 0;have y1:=(Qa K.o).1 1;simp only[Zx,Zy,Zz] at x0 x1 y0 y1;by_cases hlt:i<n1
  ·obtain⟨x,hx⟩:∃x,s.words[i]? = some x:=⟨_,List.getElem?_eq_getElem (show i<s.words.length by have:=HN1.o;omega)⟩;obtain⟨y,hy⟩:∃y,t.words[i]? = some y:=⟨_,List.getElem?_eq_getElem (show i<t.words.length by have:=HN2.o;omega)⟩;obtain⟨b1,o1,rfl,hb1,-,hc1⟩:=HK1.o i x hx;obtain⟨b2,o2,rfl,hb2,-,hc2⟩:=HK2.o i y hy;have g1:=((BB.o.trans (HB.o.mono BB.o.size)).cell (p:=⟨b1,o1+i,none⟩) hb1).trans hc1;have g2:=((BB.o.trans (HB.o.mono BB.o.size)).cell (p:=⟨b2,o2+i,none⟩) hb2).trans hc2;have e1:(0:Int)≤(i:Int):=by omega
   have e2:(i:Int)<(n1:Int):=by omega
   have HX:=Zh hx;have HY:=Zh hy;clear hc1 hc2 hx hy HK1 HK2;by_cases hxy:x=y
   ·subst hxy;have q3:((x:Int) !=(x:Int))=false:=by simp
    have HE2:=Zh (show s.words.take (i+1)=t.words.take (i+1) by rw[List.take_add_one,List.take_add_one,HE.o,HX.o,HY.o]);go_wp2;go_quiet (fail);go_wp2;go_roundw
    case rel=>exact⟨i+1,by omega,by go_num,HE2,Qp HB.o _⟩
    case measure=>simp[intOf];omega
   ·have q3:((x:Int) !=(y:Int))=true:=by simp;omega
    obtain rfl:d=false:=by
     rw[←HD2.o];have:s.words≠t.words:=by
      intro e;have h1:=HX.o;rw[e,HY.o] at h1;injection h1 with h1
      exact hxy h1.symm
     simpa using this
    go_wp2;go_quiet (fail);go_wp2;go_ret;exact⟨rfl,Qp (BB.o.trans (HB.o.mono BB.o.size)) _⟩
  ·obtain rfl:i=n1:=by omega
   obtain rfl:d=true:=by
    rw[←HD2.o];have h:=HE.o;rw[List.take_of_length_le (by have:=HN1.o;omega),List.take_of_length_le (by have:=HN2.o;omega)] at h
    simpa using h
   go_wp2;go_ret;exact⟨rfl,BB.o.trans (HB.o.mono BB.o.size)⟩
end
end Go.Proofs.YtijekimobahgpaaGreatDoor
