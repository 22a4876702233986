/- A part of the proof. -/
import Derived.Test.YtijekimobahgpaaGreatDoorMq09
set_option linter.unusedVariables false
set_option linter.unusedSimpArgs false
set_option linter.unusedSectionVars false
set_option maxRecDepth 100000
set_option maxHeartbeats 16000000
namespace Go.Proofs.YtijekimobahgpaaGreatDoor
section
open Go.RowKit
variable [Base]
theorem Qjo (f:Nat→Nat→Nat) (hf:FunQ 87 f) (s t:QSet) (u1 u2:Value) (w:World) (h1:Qi w u1 s.words) (h2:Qi w u2 t.words):
  Calls Tryz.prog 86 #[setV s u1,setV t u2,.func (.func 87) #[] #[]] w (SetE (QIa f s t) w):=by
 have hud:∀b:Bool,(undef=Value.bool b)=False:=fun b=>by simp [undef]
 obtain⟨a1,c1,rfl,hm1,hc1,hcm1,hk1⟩:=h1.cell;obtain⟨a2,c2,rfl,hm2,hc2,hcm2,hk2⟩:=h2.cell;obtain⟨n1,hn1⟩:=Ze s.words.length;obtain⟨n2,hn2⟩:=Ze t.words.length;have R1:=Zh h1;have R2:=Zh h2;rw [hn1] at hm1 hc1 R1 ⊢;rw [hn2] at hm2 hc2 R2 ⊢;have N1:=Zh hn1;have N2:=Zh hn2;have K1:=Zh hk1;have K2:=Zh hk2;have OK1:=Zh h1.2;have OK2:=Zh h2.2;have HF:=Zh hf;obtain⟨W,hW⟩:=Ze (((w.alloc (.cells #[.int .i64 s.width,.slice a1 n1 c1] 52)).alloc (.cells #[.int .i64 t.width,.slice a2 n2 c2] 52)).alloc (.cells #[.int .i64 0,.slice none 0 0] 52));have B0:Below w.heap.size w W:=by rw [←hW];exact((Zb).alloc (by simp) _).alloc (by simp;omega) _
 have L1:W.heap[w.heap.size]? = some (.cells #[.int .i64 s.width,.slice a1 n1 c1] 52 (0,0)):=by rw [←hW];exact Qz _ (Qz _ (heap_alloc_new _ _))
 have L2:W.heap[w.heap.size+1]? = some (.cells #[.int .i64 t.width,.slice a2 n2 c2] 52 (0,0)):=by rw [←hW];exact Qz _ (Qda _ _)
 have L3:W.heap[w.heap.size+1+1]? = some (.cells #[.int .i64 0,.slice none 0 0] 52 (0,0)):=by rw [←hW];have k:=heap_alloc_new ((w.alloc (.cells #[.int .i64 s.width,.slice a1 n1 c1] 52)).alloc (.cells #[.int .i64 t.width,.slice a2 n2 c2] 52)) (.cells #[.int .i64 0,.slice none 0 0] 52);simp only [World.size_alloc] at k;exact k
 have HW:=Zh hW;have BB:=Zh B0;have H1:=Zh L1;have H2:=Zh L2;have H3:=Zh L3;have x0:=(Qa L1).1 0;have x1:=(Qa L1).1 1;have y0:=(Qa L2).1 0;have y1:=(Qa L2).1 1;have z0:=(Qa L3).1 0;have z1:=(Qa L3).1 1;have f0:=(Qa L3).2 0;have f1:=(Qa L3).2 1;simp only [Zx,Zy,Zz] at x0 x1 y0 y1 z0 z1;unfold maxLen at hm1 hm2;clear hW B0 L1 L2 L3 h1 h2 hn1 hn2 hk1 hk2 hf;rcases Bool.eq_false_or_eq_true (setB s) with hv1|hv1
 rotate_left
 ·rw [show QIa f s t=(Qrd,1) from by unfold QIa;rw [if_pos (Or.inl hv1)]];have HV1:=Zh hv1;clear hv1;go_enter Tryz.func86,Tryz.ntmps86;go_wp2_with fail;rw [show((w.alloc (.cells #[.int .i64 s.width,.slice a1 _ c1] 52)).alloc (.cells #[.int .i64 t.width,.slice a2 _ c2] 52)).alloc (.cells #[.int .i64 0,.slice none 0 0] 52)=W from HW.o];refine(QT HV1.o _ _ (R1.o.below BB.o)).mono ?_;rintro e v1 ⟨rfl,b1⟩;have B1:=Zh (BB.o.trans (b1.mono BB.o.size));have M11:=Zh (Qc H1.o b1 (Qb H1.o));have M12:=Zh (Qc H2.o b1 (Qb H2.o));have M13:=Zh (Qc H3.o b1 (Qb H3.o));clear b1;clear x0 x1 y0 y1 z0 z1 f0 f1;have x0:=(Qa M11.o).1 0;have x1:=(Qa M11.o).1 1;have y0:=(Qa M12.o).1 0;have y1:=(Qa M12.o).1 1;have z0:=(Qa M13.o).1 0;have z1:=(Qa M13.o).1 1;have f0:=(Qa M13.o).2 0;have f1:=(Qa M13.o).2 1;simp only [Zx,Zy,Zz] at x0 x1 y0 y1 z0 z1;go_wp2;refine bodyPost_ret (v:=.tuple #[QPd,.int .i64 1]) (by simp [results,Tryz.results86,go_sem,z0,z1]) rfl (QJd.set ⟨rfl,(B1.o.setCell (p:=⟨w.heap.size+1+1,0,none⟩) (by show w.heap.size≤w.heap.size+1+1;omega) _).setCell (p:=⟨w.heap.size+1+1,1,none⟩) (by show w.heap.size≤w.heap.size+1+1;omega) _⟩)
 have HV1:=Zh hv1;rcases Bool.eq_false_or_eq_true (setB t) with hv2|hv2
 rotate_left
 ·rw [show QIa f s t=(Qrd,1) from by unfold QIa;rw [if_pos (Or.inr hv2)]];have HV2:=Zh hv2;clear hv1 hv2;go_enter Tryz.func86,Tryz.ntmps86;go_wp2_with fail;rw [show((w.alloc (.cells #[.int .i64 s.width,.slice a1 _ c1] 52)).alloc (.cells #[.int .i64 t.width,.slice a2 _ c2] 52)).alloc (.cells #[.int .i64 0,.slice none 0 0] 52)=W from HW.o];refine(QT HV1.o _ _ (R1.o.below BB.o)).mono ?_;rintro e v1 ⟨rfl,b1⟩;have B1:=Zh (BB.o.trans (b1.mono BB.o.size));have M11:=Zh (Qc H1.o b1 (Qb H1.o));have M12:=Zh (Qc H2.o b1 (Qb H2.o));have M13:=Zh (Qc H3.o b1 (Qb H3.o));clear b1;clear x0 x1 y0 y1 z0 z1 f0 f1;have x0:=(Qa M11.o).1 0;have x1:=(Qa M11.o).1 1;have y0:=(Qa M12.o).1 0;have y1:=(Qa M12.o).1 1;have z0:=(Qa M13.o).1 0;have z1:=(Qa M13.o).1 1;have f0:=(Qa M13.o).2 0;have f1:=(Qa M13.o).2 1;simp only [Zx,Zy,Zz] at x0 x1 y0 y1 z0 z1;go_wp2_with fail;refine(QT HV2.o _ _ (R2.o.below B1.o)).mono ?_;rintro e v2 ⟨rfl,b2⟩;have B2:=Zh (B1.o.trans (b2.mono B1.o.size));have M21:=Zh (Qc M11.o b2 (Qb M11.o));have M22:=Zh (Qc M12.o b2 (Qb M12.o));have M23:=Zh (Qc M13.o b2 (Qb M13.o));clear b2;clear x0 x1 y0 y1 z0 z1 f0 f1;have x0:=(Qa M21.o).1 0;have x1:=(Qa M21.o).1 1;have y0:=(Qa M22.o).1 0;have y1:=(Qa M22.o).1 1;have z0:=(Qa M23.o).1 0;have z1:=(Qa M23.o).1 1;have f0:=(Qa M23.o).2 0;have f1:=(Qa M23.o).2 1;simp only [Zx,Zy,Zz] at x0 x1 y0 y1 z0 z1;go_wp2;refine bodyPost_ret (v:=.tuple #[QPd,.int .i64 1]) (by simp [results,Tryz.results86,go_sem,z0,z1]) rfl (QJd.set ⟨rfl,(B2.o.setCell (p:=⟨w.heap.size+1+1,0,none⟩) (by show w.heap.size≤w.heap.size+1+1;omega) _).setCell (p:=⟨w.heap.size+1+1,1,none⟩) (by show w.heap.size≤w.heap.size+1+1;omega) _⟩)
 have HV2:=Zh hv2;by_cases hd:s.width=t.width;rotate_left
 ·rw [show QIa f s t=(Qrd,2) from by unfold QIa;rw [if_neg (by rw [hv1,hv2];simp),if_pos hd]];have hdb:(s.width != t.width)=true:=by simpa using hd
  clear hv1 hv2;go_enter Tryz.func86,Tryz.ntmps86;go_wp2_with fail;rw [show((w.alloc (.cells #[.int .i64 s.width,.slice a1 _ c1] 52)).alloc (.cells #[.int .i64 t.width,.slice a2 _ c2] 52)).alloc (.cells #[.int .i64 0,.slice none 0 0] 52)=W from HW.o];refine(QT HV1.o _ _ (R1.o.below BB.o)).mono ?_;rintro e v1 ⟨rfl,b1⟩;have B1:=Zh (BB.o.trans (b1.mono BB.o.size));have M11:=Zh (Qc H1.o b1 (Qb H1.o));have M12:=Zh (Qc H2.o b1 (Qb H2.o));have M13:=Zh (Qc H3.o b1 (Qb H3.o));clear b1;clear x0 x1 y0 y1 z0 z1 f0 f1;have x0:=(Qa M11.o).1 0;have x1:=(Qa M11.o).1 1;have y0:=(Qa M12.o).1 0;have y1:=(Qa M12.o).1 1;have z0:=(Qa M13.o).1 0;have z1:=(Qa M13.o).1 1;have f0:=(Qa M13.o).2 0;have f1:=(Qa M13.o).2 1;simp only [Zx,Zy,Zz] at x0 x1 y0 y1 z0 z1;go_wp2_with fail;refine(QT HV2.o _ _ (R2.o.below B1.o)).mono ?_;rintro e v2 ⟨rfl,b2⟩;have B2:=Zh (B1.o.trans (b2.mono B1.o.size));have M21:=Zh (Qc M11.o b2 (Qb M11.o));have M22:=Zh (Qc M12.o b2 (Qb M12.o));have M23:=Zh (Qc M13.o b2 (Qb M13.o));clear b2;clear x0 x1 y0 y1 z0 z1 f0 f1;have x0:=(Qa M21.o).1 0;have x1:=(Qa M21.o).1 1;have y0:=(Qa M22.o).1 0;have y1:=(Qa M22.o).1 1;have z0:=(Qa M23.o).1 0;have z1:=(Qa M23.o).1 1;have f0:=(Qa M23.o).2 0;have f1:=(Qa M23.o).2 1;simp only [Zx,Zy,Zz] at x0 x1 y0 y1 z0 z1;go_wp2;refine bodyPost_ret (v:=.tuple #[QPd,.int .i64 2]) (by simp [results,Tryz.results86,go_sem,z0,z1]) rfl (QJd.set ⟨rfl,(B2.o.setCell (p:=⟨w.heap.size+1+1,0,none⟩) (by show w.heap.size≤w.heap.size+1+1;omega) _).setCell (p:=⟨w.heap.size+1+1,1,none⟩) (by show w.heap.size≤w.heap.size+1+1;omega) _⟩)
 rw [show QIa f s t=(zipS f s t,0) from by unfold QIa;rw [if_neg (by rw [hv1,hv2];simp),if_neg (by simpa using hd)]];have hdb:(s.width != t.width)=false:=by simpa using hd
 have F1:=Zh (QBa hv1 OK1.o);have F2:=Zh (QBa hv2 OK2.o);obtain⟨m,e1,e2,e3⟩:=Qka F1.o;obtain⟨m2,e4,e5,e6⟩:=Qka F2.o;have HD:=Zh hd;have hmm:m2=m:=by omega
 subst hmm;have HM:=Zh e1;have hnn:n1=Qj m2:=by have:=N1.o;omega
 have hnn2:n2=Qj m2:=by have:=N2.o;omega
 subst hnn hnn2;have hwn:Qj m2≤4:=by unfold Qj;omega
 have hmk:=fun w=>QTd (Qj m2) (by omega) (Qj m2:Nat) rfl w
 clear hv1 hv2 e1 e3 e4 e6 hd;go_enter Tryz.func86,Tryz.ntmps86;go_wp2_with fail;rw [show((w.alloc (.cells #[.int .i64 s.width,.slice a1 _ c1] 52)).alloc (.cells #[.int .i64 t.width,.slice a2 _ c2] 52)).alloc (.cells #[.int .i64 0,.slice none 0 0] 52)=W from HW.o];refine(QT HV1.o _ _ (R1.o.below BB.o)).mono ?_;rintro e v1 ⟨rfl,b1⟩;have B1:=Zh (BB.o.trans (b1.mono BB.o.size));have M11:=Zh (Qc H1.o b1 (Qb H1.o));have M12:=Zh (Qc H2.o b1 (Qb H2.o));have M13:=Zh (Qc H3.o b1 (Qb H3.o));clear b1;clear x0 x1 y0 y1 z0 z1 f0 f1;have x0:=(Qa M11.o).1 0;have x1:=(Qa M11.o).1 1;have y0:=(Qa M12.o).1 0;have y1:=(Qa M12.o).1 1;have z0:=(Qa M13.o).1 0;have z1:=(Qa M13.o).1 1;have f0:=(Qa M13.o).2 0;have f1:=(Qa M13.o).2 1;simp only [Zx,Zy,Zz] at x0 x1 y0 y1 z0 z1;go_wp2_with fail;refine(QT HV2.o _ _ (R2.o.below B1.o)).mono ?_;rintro e v2 ⟨rfl,b2⟩;have B2:=Zh (B1.o.trans (b2.mono B1.o.size));have M21:=Zh (Qc M11.o b2 (Qb M11.o));have M22:=Zh (Qc M12.o b2 (Qb M12.o));have M23:=Zh (Qc M13.o b2 (Qb M13.o));clear b2;clear x0 x1 y0 y1 z0 z1 f0 f1;have x0:=(Qa M21.o).1 0;have x1:=(Qa M21.o).1 1;have y0:=(Qa M22.o).1 0;have y1:=(Qa M22.o).1 1;have z0:=(Qa M23.o).1 0;have z1:=(Qa M23.o).1 1;have f0:=(Qa M23.o).2 0;have f1:=(Qa M23.o).2 1;simp only [Zx,Zy,Zz] at x0 x1 y0 y1 z0 z1;go_wp2_with fail;have hz0:w.heap.size+1+1<v2.heap.size:=Qb M23.o;have hz1:w.heap.size≠v2.heap.size:=by omega
 have hz2:w.heap.size<v2.heap.size:=by omega
 go_region
 ·have I0:=Zh (show XIn w v2 ((v2.alloc (.cells (zc (Qj m2)) 139)).alloc (.cells #[.int .i64 s.width,.slice (some ⟨v2.heap.size,0,none⟩) (Qj m2) (Qj m2)] 52)).drew (w.heap.size+1+1) (v2.heap.size+1) v2.heap.size m2 s.width (Qdc f s t 0) from⟨((B2.o.alloc (by omega) _).alloc (by simp;omega) _).drew,((Zb).alloc (by simp) _).drew,Qz _ (Qz _ M23.o),Qda _ _,by rw [Qjf N1.o];exact Qz _ (heap_alloc_new _ _),by omega,by omega,by omega,by omega,by omega,by omega,by omega⟩);obtain⟨V,hV⟩:=Ze (((v2.alloc (.cells (zc (Qj m2)) 139)).alloc (.cells #[.int .i64 s.width,.slice (some ⟨v2.heap.size,0,none⟩) (Qj m2) (Qj m2)] 52)).drew);rw [hV] at I0;have HV:=Zh hV;have hrc:w.heap.size+1+1≠(v2.heap.size+1):=by omega
  have h0c:w.heap.size≠(v2.heap.size+1):=by omega
  have h1c:w.heap.size+1≠(v2.heap.size+1):=by omega
  have h0g:w.heap.size≠v2.heap.size:=by omega
  have h1g:w.heap.size+1≠v2.heap.size:=by omega
  have hcg:(v2.heap.size+1)≠v2.heap.size:=by omega
  have hcur:=I0.o.cur;clear hV x0 x1 y0 y1 z0 z1 f0 f1;have x0:=(Qa hcur).1 0;have x1:=(Qa hcur).1 1;simp only [Zx,Zy,Zz] at x0 x1;clear hcur;go_wp2_with fail;rw [show((v2.alloc (.cells (zc (Qj m2)) 139)).alloc (.cells #[.int .i64 s.width,.slice (some ⟨v2.heap.size,0,none⟩) (Qj m2) (Qj m2)] 52)).drew=V from HV.o];go_loopw [37] (fun y wr=>∃i:Nat,i≤Qj m2∧y=.int .i64 i∧Hid (XIn w v2 wr (w.heap.size+1+1) (v2.heap.size+1) v2.heap.size m2 s.width (Qdc f s t i))) (fun y _=>Qj m2-(intOf y).toNat)
  case atStart=>exact⟨0,Nat.zero_le _,rfl,I0.o⟩
  case round=>
   clear I0 x0 x1;obtain⟨i,hi,rfl,I⟩:=hrel;have J0:=Zh (Qa I.o.cur);have x0:=J0.o.1 0;have x1:=J0.o.1 1;have J1:=Zh (Qa I.o.res);have z0:=J1.o.1 0;have z1:=J1.o.1 1;have f0:=J1.o.2 0;have f1:=J1.o.2 1;simp only [Zx,Zy,Zz] at x0 x1 z0 z1;by_cases hlt:i<Qj m2
   ·obtain⟨x,hx⟩:∃x,s.words[i]? = some x:=⟨_,List.getElem?_eq_getElem (show i<s.words.length by have:=N1.o;omega)⟩;obtain⟨y,hy⟩:∃y,t.words[i]? = some y:=⟨_,List.getElem?_eq_getElem (show i<t.words.length by have:=N2.o;omega)⟩;obtain⟨b1,o1,rfl,hb1,-,hc1⟩:=K1.o i x hx;obtain⟨b2,o2,rfl,hb2,-,hc2⟩:=K2.o i y hy;have g1:=(I.o.below.cell (p:=⟨b1,o1+i,none⟩) hb1).trans hc1;have g2:=(I.o.below.cell (p:=⟨b2,o2+i,none⟩) hb2).trans hc2;have hxl:=OK1.o x (List.mem_of_getElem? hx);have hyl:=OK2.o y (List.mem_of_getElem? hy);have p1:=(Qa (Qc M21.o I.o.keep (Qb M21.o))).1 1;have p2:=(Qa (Qc M22.o I.o.keep (Qb M22.o))).1 1;simp only [Zx,Zy,Zz] at p1 p2;have hgg:=I.o.own;have q0:=(Qa hgg).1 i;have q1:=(Qa hgg).2 i;obtain⟨z,hz⟩:∃z,(Qdc f s t i)[i]? = some z:=⟨_,List.getElem?_eq_getElem (by rw [QTc (N1.o.trans N2.o.symm) (by rw [N1.o];exact hi),N1.o];exact hlt)⟩;rw [List.getElem?_toArray,List.getElem?_map,hz] at q0;simp only [Option.map_some] at q0;have HS:=Zh (Qkf (f:=f) hx hy (N1.o.trans N2.o.symm));have i1:(0:Int)≤(i:Int):=by omega
    have i2:(i:Int)<(Qj m2:Nat):=by omega
    have hc0:b1≠v2.heap.size:=by omega
    have hc9:b2≠v2.heap.size:=by omega
    clear hx hy hz hgg hc1 hc2;go_wp2_with fail;have hfl:f x y<18446744073709551616:=(HF.o x y wr hxl hyl).1;have k0:=Ne.symm h0g;have k4:=Ne.symm hz1;have k1:=Ne.symm h1g;have k2:=Ne.symm hc0;have k3:=Ne.symm hc9;go_region_held3 (fun w'=>w'.cell? ⟨(v2.heap.size+1),1,none⟩=some (.slice (some ⟨v2.heap.size,0,none⟩) (Qj m2) (Qj m2))∧w'.cell? ⟨w.heap.size,1,none⟩=some (.slice (some ⟨b1,o1,none⟩) (Qj m2) c1)∧w'.cell? ⟨w.heap.size+1,1,none⟩=some (.slice (some ⟨b2,o2,none⟩) (Qj m2) c2)∧w'.cell? ⟨b1,o1+i,none⟩=some (uv x)∧w'.cell? ⟨b2,o2+i,none⟩=some (uv y)) (first|go_keep|exact⟨Qqa hcg x1,Qqa h0g p1,Qqa h1g p2,Qqa hc0 g1,Qqa hc9 g2⟩|exact⟨QM h0g p1,QM h1g p2,QM hc0 g1,QM hc9 g2⟩|exact⟨QM hcg x1,QM h0g p1,QM h1g p2,QM hc0 g1,QM hc9 g2⟩) ((go_at_call 87;refine((HF.o x y _ hxl hyl).2).mono ?_;rintro e w9 ⟨rfl,rfl⟩))
    all_goals
     go_wp2;go_roundw
     case rel=>exact⟨i+1,by omega,by go_num,by rw [HS.o];exact((I.o.put i (f x y)).drew 1)⟩
     case measure=>simp [intOf];omega
   ·obtain rfl:i=Qj m2:=by omega
    have HFI:=Zh (I.o.fin (.int .i64 s.width) (.slice (some ⟨v2.heap.size,0,none⟩) (Qj m2) (Qj m2)));have HZ:=Zh (show Qdc f s t (Qj m2)=(zipS f s t).words by rw [←N1.o];exact QKf (N1.o.trans N2.o.symm));have HZF:=Zh (Qee (fun a b ha hb=>(HF.o a b w ha hb).1) F1.o F2.o HD.o).1;go_wp2;refine bodyPost_ret (v:=.tuple #[setV (zipS f s t) (.slice (some ⟨v2.heap.size,0,none⟩) (Qj m2) (Qj m2)),.int .i64 0]) (by simp [results,Tryz.results86,go_sem,z0,z1,zipS]) rfl ⟨_,rfl,.inr ⟨v2.heap.size,?_,by have:=I.o.old.2.2.1;exact this,?_,HZF.o⟩,HFI.o.2⟩
    ·rw [←HZ.o,QTc (N1.o.trans N2.o.symm) (by rw [N1.o];exact Nat.le_refl _),N1.o]
    ·rw [←HZ.o];exact HFI.o.1
 ·have I0:=Zh (show XIn w v2 ((v2.alloc (.cells #[.int .i64 s.width,.slice (some ⟨v2.heap.size+1,0,none⟩) (Qj m2) (Qj m2)] 52)).alloc (.cells (zc (Qj m2)) 139)).drew (w.heap.size+1+1) v2.heap.size (v2.heap.size+1) m2 s.width (Qdc f s t 0) from⟨((B2.o.alloc (by omega) _).alloc (by simp;omega) _).drew,((Zb).alloc (by simp) _).drew,Qz _ (Qz _ M23.o),Qz _ (heap_alloc_new _ _),by rw [Qjf N1.o];exact Qda _ _,by omega,by omega,by omega,by omega,by omega,by omega,by omega⟩);obtain⟨V,hV⟩:=Ze (((v2.alloc (.cells #[.int .i64 s.width,.slice (some ⟨v2.heap.size+1,0,none⟩) (Qj m2) (Qj m2)] 52)).alloc (.cells (zc (Qj m2)) 139)).drew);rw [hV] at I0;have HV:=Zh hV;have hrc:w.heap.size+1+1≠v2.heap.size:=by omega
  have h0c:w.heap.size≠v2.heap.size:=by omega
  have h1c:w.heap.size+1≠v2.heap.size:=by omega
  have h0g:w.heap.size≠(v2.heap.size+1):=by omega
  have h1g:w.heap.size+1≠(v2.heap.size+1):=by omega
  have hcg:v2.heap.size≠(v2.heap.size+1):=by omega
  have hcur:=I0.o.cur;clear hV x0 x1 y0 y1 z0 z1 f0 f1;have x0:=(Qa hcur).1 0;have x1:=(Qa hcur).1 1;simp only [Zx,Zy,Zz] at x0 x1;clear hcur;go_wp2_with fail;rw [show((v2.alloc (.cells #[.int .i64 s.width,.slice (some ⟨v2.heap.size+1,0,none⟩) (Qj m2) (Qj m2)] 52)).alloc (.cells (zc (Qj m2)) 139)).drew=V from HV.o];go_loopw [37] (fun y wr=>∃i:Nat,i≤Qj m2∧y=.int .i64 i∧Hid (XIn w v2 wr (w.heap.size+1+1) v2.heap.size (v2.heap.size+1) m2 s.width (Qdc f s t i))) (fun y _=>Qj m2-(intOf y).toNat)
  case atStart=>exact⟨0,Nat.zero_le _,rfl,I0.o⟩
  case round=>
   clear I0 x0 x1;obtain⟨i,hi,rfl,I⟩:=hrel;have J0:=Zh (Qa I.o.cur);have x0:=J0.o.1 0;have x1:=J0.o.1 1;have J1:=Zh (Qa I.o.res);have z0:=J1.o.1 0;have z1:=J1.o.1 1;have f0:=J1.o.2 0;have f1:=J1.o.2 1;simp only [Zx,Zy,Zz] at x0 x1 z0 z1;by_cases hlt:i<Qj m2
   ·obtain⟨x,hx⟩:∃x,s.words[i]? = some x:=⟨_,List.getElem?_eq_getElem (show i<s.words.length by have:=N1.o;omega)⟩;obtain⟨y,hy⟩:∃y,t.words[i]? = some y:=⟨_,List.getElem?_eq_getElem (show i<t.words.length by have:=N2.o;omega)⟩;obtain⟨b1,o1,rfl,hb1,-,hc1⟩:=K1.o i x hx;obtain⟨b2,o2,rfl,hb2,-,hc2⟩:=K2.o i y hy;have g1:=(I.o.below.cell (p:=⟨b1,o1+i,none⟩) hb1).trans hc1;have g2:=(I.o.below.cell (p:=⟨b2,o2+i,none⟩) hb2).trans hc2;have hxl:=OK1.o x (List.mem_of_getElem? hx);have hyl:=OK2.o y (List.mem_of_getElem? hy);have p1:=(Qa (Qc M21.o I.o.keep (Qb M21.o))).1 1;have p2:=(Qa (Qc M22.o I.o.keep (Qb M22.o))).1 1;simp only [Zx,Zy,Zz] at p1 p2;have hgg:=I.o.own;have q0:=(Qa hgg).1 i;have q1:=(Qa hgg).2 i;obtain⟨z,hz⟩:∃z,(Qdc f s t i)[i]? = some z:=⟨_,List.getElem?_eq_getElem (by rw [QTc (N1.o.trans N2.o.symm) (by rw [N1.o];exact hi),N1.o];exact hlt)⟩;rw [List.getElem?_toArray,List.getElem?_map,hz] at q0;simp only [Option.map_some] at q0;have HS:=Zh (Qkf (f:=f) hx hy (N1.o.trans N2.o.symm));have i1:(0:Int)≤(i:Int):=by omega
    have i2:(i:Int)<(Qj m2:Nat):=by omega
    have hc0:b1≠(v2.heap.size+1):=by omega
    have hc9:b2≠(v2.heap.size+1):=by omega
    clear hx hy hz hgg hc1 hc2;go_wp2_with fail;have hfl:f x y<18446744073709551616:=(HF.o x y wr hxl hyl).1;have k0:=Ne.symm h0g;have k4:=Ne.symm hz1;have k1:=Ne.symm h1g;have k2:=Ne.symm hc0;have k3:=Ne.symm hc9;go_region_held3 (fun w'=>w'.cell? ⟨v2.heap.size,1,none⟩=some (.slice (some ⟨(v2.heap.size+1),0,none⟩) (Qj m2) (Qj m2))∧w'.cell? ⟨w.heap.size,1,none⟩=some (.slice (some ⟨b1,o1,none⟩) (Qj m2) c1)∧w'.cell? ⟨w.heap.size+1,1,none⟩=some (.slice (some ⟨b2,o2,none⟩) (Qj m2) c2)∧w'.cell? ⟨b1,o1+i,none⟩=some (uv x)∧w'.cell? ⟨b2,o2+i,none⟩=some (uv y)) (first|go_keep|exact⟨Qqa hcg x1,Qqa h0g p1,Qqa h1g p2,Qqa hc0 g1,Qqa hc9 g2⟩|exact⟨QM h0g p1,QM h1g p2,QM hc0 g1,QM hc9 g2⟩|exact⟨QM hcg x1,QM h0g p1,QM h1g p2,QM hc0 g1,QM hc9 g2⟩) ((go_at_call 87;refine((HF.o x y _ hxl hyl).2).mono ?_;rintro e w9 ⟨rfl,rfl⟩))
    all_goals
     go_wp2;go_roundw
     case rel=>exact⟨i+1,by omega,by go_num,by rw [HS.o];exact((I.o.put i (f x y)).drew 1)⟩
     case measure=>simp [intOf];omega
   ·obtain rfl:i=Qj m2:=by omega
    have HFI:=Zh (I.o.fin (.int .i64 s.width) (.slice (some ⟨(v2.heap.size+1),0,none⟩) (Qj m2) (Qj m2)));have HZ:=Zh (show Qdc f s t (Qj m2)=(zipS f s t).words by rw [←N1.o];exact QKf (N1.o.trans N2.o.symm));have HZF:=Zh (Qee (fun a b ha hb=>(HF.o a b w ha hb).1) F1.o F2.o HD.o).1;go_wp2;refine bodyPost_ret (v:=.tuple #[setV (zipS f s t) (.slice (some ⟨(v2.heap.size+1),0,none⟩) (Qj m2) (Qj m2)),.int .i64 0]) (by simp [results,Tryz.results86,go_sem,z0,z1,zipS]) rfl ⟨_,rfl,.inr ⟨(v2.heap.size+1),?_,by have:=I.o.old.2.2.1;exact this,?_,HZF.o⟩,HFI.o.2⟩
    ·rw [←HZ.o,QTc (N1.o.trans N2.o.symm) (by rw [N1.o];exact Nat.le_refl _),N1.o]
    ·rw [←HZ.o];exact HFI.o.1
end
section
open Go.RowKit
variable [Base]
theorem Qvf (s t:QSet) (u1 u2:Value) (w:World) (h1:Qi w u1 s.words) (h2:Qi w u2 t.words):
  Calls Tryz.prog 35 #[setV s u1,setV t u2] w (SetE (QIa ((· ||| ·)) s t) w):=by
 obtain⟨a1,n1,c1,rfl⟩:∃a n c,u1=.slice a n c:=by obtain⟨a,c,rfl,-⟩:=h1.cell;exact⟨_,_,_,rfl⟩
 obtain⟨a2,n2,c2,rfl⟩:∃a n c,u2=.slice a n c:=by obtain⟨a,c,rfl,-⟩:=h2.cell;exact⟨_,_,_,rfl⟩
 have R1:=Zh h1;have R2:=Zh h2;obtain⟨W,hW⟩:=Ze (((w.alloc (.cells #[.int .i64 s.width,.slice a1 n1 c1] 52)).alloc (.cells #[.int .i64 t.width,.slice a2 n2 c2] 52)).alloc (.cells #[.int .i64 0,.slice none 0 0] 52));have B0:Below w.heap.size w W:=by rw [←hW];exact((Zb).alloc (by simp) _).alloc (by simp;omega) _
 have L3:W.heap[w.heap.size+1+1]? = some (.cells #[.int .i64 0,.slice none 0 0] 52 (0,0)):=by rw [←hW];have k:=heap_alloc_new ((w.alloc (.cells #[.int .i64 s.width,.slice a1 n1 c1] 52)).alloc (.cells #[.int .i64 t.width,.slice a2 n2 c2] 52)) (.cells #[.int .i64 0,.slice none 0 0] 52);simp only [World.size_alloc] at k;exact k
 have HW:=Zh hW;have BB:=Zh B0;have H3:=Zh L3;clear hW B0 L3 h1 h2;go_enter Tryz.func35,Tryz.ntmps35;go_wp2_with fail;rw [show((w.alloc (.cells #[.int .i64 s.width,.slice a1 n1 c1] 52)).alloc (.cells #[.int .i64 t.width,.slice a2 n2 c2] 52)).alloc (.cells #[.int .i64 0,.slice none 0 0] 52)=W from HW.o];refine(Qjo ((· ||| ·)) Qou s t _ _ _ (R1.o.below BB.o) (R2.o.below BB.o)).mono ?_;rintro e v ⟨u,rfl,hu,b1⟩;obtain⟨ua,un,uc,rfl⟩:=hu.shape;obtain⟨q,hq⟩:=Ze (QIa ((· ||| ·)) s t);rw [hq] at hu ⊢;have HU:=Zh hu;have L3:=Zh (Qc H3.o b1 (Qb H3.o));have B1:=Zh (BB.o.trans (b1.mono BB.o.size));have z0:=(Qa L3.o).1 0;have z1:=(Qa L3.o).1 1;have f0:=(Qa L3.o).2 0;have f1:=(Qa L3.o).2 1;simp only [Zx,Zy,Zz] at z0 z1;have hsz:=Qb L3.o;have HLT:=Zh (Qb H3.o);have HQ:=Zh hq;clear hu b1 hq;go_wp2;refine bodyPost_ret (v:=.tuple #[setV q.1 (.slice ua un uc),.int .i64 q.2]) (by simp [results,Tryz.results35,go_sem,z0,z1]) rfl ?_;rw [HQ.o];exact⟨_,rfl,((HU.o.setCell HLT.o).setCell HLT.o).mono BB.o.size,(B1.o.setCell (p:=⟨w.heap.size+1+1,0,none⟩) (by show w.heap.size≤w.heap.size+1+1;omega) _).setCell (p:=⟨w.heap.size+1+1,1,none⟩) (by show w.heap.size≤w.heap.size+1+1;omega) _⟩
end
section
open Go.RowKit
variable [Base]
theorem Qll {w:World} (a b c:Obj):(((w.alloc a).alloc b).alloc c).heap[w.heap.size+1+1]? = some c:=by
 have h:=heap_alloc_new ((w.alloc a).alloc b) c
 simpa using h
abbrev FNA:TypeId:=55
structure Apl (z q m:Nat) (tv sv:Array Value) (w0 w:World) (u:Value) (o:QSet):Prop where
 zs:w0.heap.size=z
 below:Below z w0 w
 bs:Base.b≤z
 zq:z+3≤q
 tb:w.heap[z]? = some (.cells tv FNA (0,0))
 sb:w.heap[z+1]? = some (.cells sv ST (0,0))
 rb:w.heap[z+1+1]? = some (.cells #[iv 0,.slice none 0 0] ST (0,0))
 ob:w.heap[q]? = some (.cells #[iv m,u] ST (0,0))
 words:Qi w u o.words
section
variable {z q m:Nat} {tv sv:Array Value} {w0 w w':World} {u:Value} {o:QSet}
theorem Apl.next (h:Apl z q m tv sv w0 w u o) (b:Below w.heap.size w w'):Apl z q m tv sv w0 w' u o:=
 ⟨h.zs,h.below.trans (b.mono (by have:=h.below.size;have:=h.zs;omega)),h.bs,h.zq,Qc h.tb b (Qb h.tb),Qc h.sb b (Qb h.sb),Qc h.rb b (Qb h.rb),Qc h.ob b (Qb h.ob),h.words.below b⟩
theorem Apl.zw (h:Apl z q m tv sv w0 w u o):z≤w.heap.size:=by have:=h.below.size;have:=h.zs;omega
theorem Apl.turn (h:Apl z q m tv sv w0 w u o) {u2:Value} {o2:QSet} (hu:Qi w u2 o2.words):Apl z q m tv sv w0 ((w.setCell ⟨q,0,none⟩ (iv m)).setCell ⟨q,1,none⟩ u2) u2 o2:=by
 have hz:=h.zq;have hb:=h.bs;have keep:∀k ob,w.heap[k]? = some ob→k≠q→((w.setCell ⟨q,0,none⟩ (iv m)).setCell ⟨q,1,none⟩ u2).heap[k]? = some ob:=fun k ob hk hne=>by
  rw [Below.heap_setCell _ _ _ _ hne,Below.heap_setCell _ _ _ _ hne];exact hk
 have hT:tyAt w q=some ST:=Qv h.ob (by omega);have hT2:tyAt (w.setCell ⟨q,0,none⟩ (iv m)) q=some ST:=by rw [QS];exact hT
 exact⟨h.zs,(h.below.setCell (by show z≤q;omega) _).setCell (by show z≤q;omega) _,h.bs,h.zq,keep _ _ h.tb (by omega),keep _ _ h.sb (by omega),keep _ _ h.rb (by omega),Qvb (Qwb h.ob _) _,
  (hu.keep (Qf.setCell (U:=ST) hT (by decide))).keep (Qf.setCell (U:=ST) hT2 (by decide))⟩
end
theorem Qwr (m:Nat) (t:Qw) (s:QSet) (hok:OkT m t) (hso:Ok m s) (gu ku cu su:Value) (w:World) (h:Qja w gu ku cu t) (h2:Qi w su s.words) (hbs:Base.b≤w.heap.size):
  Calls Tryz.prog 151 #[trV t gu ku cu,setV s su] w (SetV (valS t m s) w):=by
 have hm:=hok.gen.le;have OK:=Zh hok;have OS:=Zh hso;have hgw:=hok.gen.width;have hkw:=hok.kill.width;have hsw:=hso.width;obtain⟨ga,gc,rfl,-,-,-,-⟩:=h.gen.cell;obtain⟨ka,kc,rfl,-,-,-,-⟩:=h.kill.cell;obtain⟨ca,cc,rfl,h63,-,-,hcc⟩:=h.cops.cell;obtain⟨sa,sc,rfl,-⟩:=h2.cell;have HC:=Zh hcc;have hc64:=hok.len;simp only [trV,setV];obtain⟨gn,hgn⟩:=Ze t.gen.words.length;obtain⟨kn,hkn⟩:=Ze t.kill.words.length;obtain⟨sn,hsn⟩:=Ze s.words.length;obtain⟨n,hn⟩:=Ze t.cops.length;have HN:=Zh hn;have HG1:=Zh (hgn▸h.gen:Qi w (.slice ga gn gc) t.gen.words);have HK1:=Zh (hkn▸h.kill:Qi w (.slice ka kn kc) t.kill.words);have HS1:=Zh (hsn▸h2:Qi w (.slice sa sn sc) s.words);rw [hgn,hkn,hn,hsn,hgw,hkw,hsw];rw [hn] at hc64;obtain⟨z,hz⟩:=Ze w.heap.size;obtain⟨W,hW⟩:=Ze (((w.alloc (.cells #[iv m,.slice ga gn gc,iv m,.slice ka kn kc,.slice ca n cc] FNA)).alloc (.cells #[iv m,.slice sa sn sc] ST)).alloc (.cells #[iv 0,.slice none 0 0] ST));have HWW:=Zh hW;have HZ:=Zh hz;have BW:=Zh (show Below z w W by rw [←hW,←hz];exact((Zb).alloc (by simp) _).alloc (by simp;omega) _);have HX:=Zh (show W.heap[z]? = some (.cells #[iv m,.slice ga gn gc,iv m,.slice ka kn kc,.slice ca n cc] FNA (0,0)) by rw [←hW,←hz,Below.heap_alloc _ _ _ (by simp;omega),Below.heap_alloc _ _ _ (by simp)];exact heap_alloc_new _ _);have HY:=Zh (show W.heap[z+1]? = some (.cells #[iv m,.slice sa sn sc] ST (0,0)) by rw [←hW,←hz,Below.heap_alloc _ _ _ (by simp)];exact Qda _ _);have HR:=Zh (show W.heap[z+1+1]? = some (.cells #[iv 0,.slice none 0 0] ST (0,0)) by rw [←hW,←hz];exact Qll _ _ _);have HSZ:=Zh (show W.heap.size=z+3 by rw [←hW,←hz];simp);have HGW:=Zh (HG1.o.below (HZ.o▸BW.o));have HKW:=Zh (HK1.o.below (HZ.o▸BW.o));have HSW:=Zh (HS1.o.below (HZ.o▸BW.o));obtain⟨r,hr1,hrok,hrb⟩:=QXo hso hok.kill;have RB:=Zh hrb;have ROK:=Zh hrok;have KD:=Zh (show Calls Tryz.prog 93 #[.agg #[iv m,.slice sa sn sc],.agg #[iv m,.slice ka kn kc]] W (SetE (r,0) W) by
  have h1:=Qbi s t.kill (.slice sa sn sc) (.slice ka kn kc) W HSW.o HKW.o;rw [hr1,show setV s (.slice sa sn sc)=.agg #[iv m,.slice sa sn sc] by rw [←hsw],show setV t.kill (.slice ka kn kc)=.agg #[iv m,.slice ka kn kc] by rw [←hkw]] at h1;exact h1)
 clear h h2 hok hso hcc hW hgn hkn hn hsn hr1 hrok hrb;obtain⟨x0,x1,x2,x3,x4⟩:=QJ HX.o;obtain⟨y0,y1⟩:=Qq HY.o;go_enter Tryz.func151,Tryz.ntmps151;go_upto_region 1 with(fail)
 rw [show((w.alloc (.cells #[iv m,.slice ga gn gc,iv m,.slice ka kn kc,.slice ca n cc] FNA)).alloc (.cells #[iv m,.slice sa sn sc] ST)).alloc (.cells #[iv 0,.slice none 0 0] ST)=W from HWW.o]
 try rw [hz]
 go_wp2_with fail;refine KD.o.mono ?_;rintro e w1 ⟨du,rfl,hd,b1⟩;obtain⟨da,dn,dc,rfl⟩:=hd.shape;have HD1:=Zh hd.words;simp only [setV,ROK.o.width];obtain⟨W2,hW2⟩:=Ze (w1.alloc (.cells #[iv m,.slice da dn dc] ST));obtain⟨q,hq⟩:=Ze w1.heap.size;have A2:=Zh (show Below w1.heap.size w1 W2 by rw [←hW2];exact Zb);have BB:=Zh (show Below W.heap.size W W2 from b1.trans (A2.o.mono b1.size));have HO:=Zh (show Apl z q m #[iv m,.slice ga gn gc,iv m,.slice ka kn kc,.slice ca n cc] #[iv m,.slice sa sn sc] w W2 (.slice da dn dc) r from by
  have s1:=b1.size;have s2:=HSZ.o;exact⟨HZ.o,BW.o.trans (BB.o.mono (by omega)),by have:=HZ.o;omega,by omega,Qc HX.o BB.o (Qb HX.o),Qc HY.o BB.o (Qb HY.o),Qc HR.o BB.o (Qb HR.o),by rw [←hW2,←hq];exact heap_alloc_new _ _,HD1.o.below A2.o⟩)
 have HW2:=Zh hW2;have HU0:=Zh (QAp ROK.o OK.o.gen);have KU:=Zh (show Calls Tryz.prog 35 #[.agg #[iv m,.slice da dn dc],.agg #[iv m,.slice ga gn gc]] W2 (SetE (appS t m s 0,0) W2) by
  have h1:=Qvf r t.gen (.slice da dn dc) (.slice ga gn gc) W2 HO.o.words (HGW.o.below BB.o);rw [HU0.o,QZs OK.o ROK.o RB.o,show setV r (.slice da dn dc)=.agg #[iv m,.slice da dn dc] by rw [←ROK.o.width],show setV t.gen (.slice ga gn gc)=.agg #[iv m,.slice ga gn gc] by rw [←hgw]] at h1;exact h1)
 clear hd b1 hW2 x0 x1 x2 x3 x4 y0 y1 KD;go_upto_region 2 with(fail)
 try rw [hq]
 rw [show w1.alloc (.cells #[iv m,.slice da dn dc] ST)=W2 from HW2.o];obtain⟨x0,x1,x2,x3,x4⟩:=QJ HO.o.tb;obtain⟨o0,o1⟩:=Qq HO.o.ob;go_wp2_with fail;refine KU.o.mono ?_;rintro e w3 ⟨eu,rfl,he,b3⟩;obtain⟨ea,en,ec,rfl⟩:=he.shape;have HE3:=Zh he.words;simp only [setV,(QIf t hm s 0).width];have HO3:=Zh (HO.o.next b3);obtain⟨W4,hW4⟩:=Ze ((w3.setCell ⟨q,0,none⟩ (iv m)).setCell ⟨q,1,none⟩ (.slice ea en ec));have HO4:=Zh (show Apl z q m #[iv m,.slice ga gn gc,iv m,.slice ka kn kc,.slice ca n cc] #[iv m,.slice sa sn sc] w W4 (.slice ea en ec) (appS t m s 0) by rw [←hW4];exact HO3.o.turn HE3.o);have HW4:=Zh hW4;clear he b3 hW4 x0 x1 x2 x3 x4 o0 o1 KU hq;obtain⟨o0,o1⟩:=Qq HO3.o.ob;have f0:=(Qa HO3.o.ob).2 0;have f1:=(Qa HO3.o.ob).2 1;go_upto_region 3 with(fail)
 rw [show(w3.setCell ⟨q,0,none⟩ (iv m)).setCell ⟨q,1,none⟩ (.slice ea en ec)=W4 from HW4.o];clear o0 o1 f0 f1 HO3 HE3 HW4 HO HW2 A2 BB;obtain⟨x0,x1,x2,x3,x4⟩:=QJ HO4.o.tb;go_wp2;clear x0 x1 x2 x3 x4;obtain⟨TV,hTV⟩:∃v:Array Value,#[iv m,.slice ga gn gc,iv m,.slice ka kn kc,.slice ca n cc]=v:=⟨_,rfl⟩;have HTV:=Zh hTV;rw [hTV] at HO4;clear hTV;go_loopw [26] (fun y wr=>∃k:Nat,k≤n∧y=.int .i64 k∧Hid (∃V,Apl z q m TV #[iv m,.slice sa sn sc] w wr V (appS t m s k))) (fun y _=>n-(intOf y).toNat)
 case atStart=>exact⟨0,Nat.zero_le _,rfl,⟨_,HO4.o⟩⟩
 case round=>
  obtain⟨k,hk,rfl,HR1⟩:=hrel;obtain⟨V,HV⟩:=HR1.o;have HO1:=Zh HV;clear HR1 HV;have hbz:Base.b≤z:=HO1.o.bs;have hqz:z+3≤q:=HO1.o.zq;by_cases hlt:k<n;rotate_left
  ·obtain rfl:k=n:=by omega
   obtain⟨va,vc,rfl,-⟩:=HO1.o.words.cell;obtain⟨vn,hvn⟩:=Ze ((appS t m s k).words.length);rw [hvn] at HO1;have HE:=Zh (show appS t m s k=valS t m s by rw [←HN.o];exact QRt OK.o OS.o);have VW:=Zh (show(valS t m s).width=(m:Int) by rw [←HE.o];exact(QIf t hm s k).width);have HRB:=Zh HO1.o.rb;obtain⟨o0,o1⟩:=Qq HO1.o.ob;obtain⟨c0,c1⟩:=Qq HRB.o;have f0:=(Qa HRB.o).2 0;have f1:=(Qa HRB.o).2 1;have E2:=Zh (Qvb (Qwb HRB.o (iv m)) (.slice va vn vc));have hT:tyAt wr (z+1+1)=some ST:=Qv HRB.o (by omega);have hT2:tyAt (wr.setCell ⟨z+1+1,0,none⟩ (iv m)) (z+1+1)=some ST:=by rw [QS];exact hT
   have S5:Qf 139 wr ((wr.setCell ⟨z+1+1,0,none⟩ (iv m)).setCell ⟨z+1+1,1,none⟩ (.slice va vn vc)):=(Qf.setCell (U:=ST) hT (by decide)).trans (Qf.setCell (U:=ST) hT2 (by decide));have HW5:=Zh (HO1.o.words.keep S5);have HB5:=Zh (show Below z w ((wr.setCell ⟨z+1+1,0,none⟩ (iv m)).setCell ⟨z+1+1,1,none⟩ (.slice va vn vc)) from(HO1.o.below.setCell (by show z≤z+1+1;omega) _).setCell (by show z≤z+1+1;omega) _);clear hT hT2 hvn S5;go_wp2;obtain⟨g0,g1⟩:=Qq E2.o;refine bodyPost_ret (v:=.agg #[iv m,.slice va vn vc]) (by simp [results,Tryz.results151,go_sem,g0,g1]) rfl ⟨.slice va vn vc,by rw [show setV (valS t m s) (.slice va vn vc)=.agg #[iv (valS t m s).width,.slice va vn vc] from rfl,VW.o],?_,?_⟩
   ·rw [←HE.o];exact HW5.o
   ·rw [HZ.o];exact HB5.o
  ·obtain⟨⟨ci,di⟩,hy⟩:∃y,t.cops[k]? = some y:=⟨_,List.getElem?_eq_getElem (by rw [HN.o];exact hlt)⟩;obtain⟨a,b,e,ha,hb⟩:=OK.o.mem (List.mem_of_getElem? hy);injection e with e1 e2
   subst e1 e2;obtain⟨b4,o4,rfl,hb4,g0,g1⟩:=HC.o k _ hy;simp only at g0 g1;have hb4z:b4<z:=by have:=HZ.o;omega
   have g0:=(HO1.o.below.cell (p:=⟨b4,o4+k*2,none⟩) hb4z).trans g0;have g1:=(HO1.o.below.cell (p:=⟨b4,o4+k*2+1,none⟩) hb4z).trans g1;have HST:=Zh (Qat (s:=s) hm hy hb);obtain⟨V1,hV1⟩:=Ze (wr.alloc (.cells #[iv a,iv b] CT));obtain⟨cb,hcb⟩:=Ze wr.heap.size;have B1:=Zh (show Below wr.heap.size wr V1 by rw [←hV1];exact Zb);have HCB:=Zh (show V1.heap[cb]? = some (.cells #[iv a,iv b] CT (0,0)) by rw [←hV1,←hcb];exact heap_alloc_new _ _);have HO6:=Zh (HO1.o.next B1.o);have HV1:=Zh hV1;have hqcb:q<cb:=by have:=Qb HO1.o.ob;omega
   clear hV1 hy;go_upto_region 6 with(fail)
   try rw [hcb]
   rw [show wr.alloc (.cells #[iv a,iv b] CT)=V1 from HV1.o];clear g0 g1;obtain⟨y0,y1⟩:=Qq HO6.o.sb;obtain⟨c0,c1⟩:=Qq HCB.o;obtain⟨d,hd⟩:=Ze (QE s.words a);have KH:=Zh (show Calls Tryz.prog 139 #[.agg #[iv m,.slice sa sn sc],iv a] V1 (Qia d V1) by
    have h1:=QPj s a (.slice sa sn sc) V1 (HS1.o.below (HO6.o.zs▸HO6.o.below));rw [QCj OS.o ha,hd,show setV s (.slice sa sn sc)=.agg #[iv m,.slice sa sn sc] by rw [←hsw]] at h1;exact h1)
   rw [hd] at HST;clear hd;go_wp2_with fail;refine KH.o.mono ?_;rintro e w5 ⟨rfl,b5⟩;have HO5:=Zh (HO6.o.next b5);have HC5:=Zh (Qc HCB.o b5 (Qb HCB.o));clear b5 y0 y1 c0 c1 HO6 HCB HV1 KH HO1 B1
   cases d with
  |false=>
    have HO7:=Zh (show Apl z q m TV #[iv m,.slice sa sn sc] w w5 V (appS t m s (k+1)) by rw [HST.o,if_neg (by simp)];exact HO5.o);go_wp2;go_roundw
    case rel=>exact⟨k+1,by omega,by go_num,⟨_,HO7.o⟩⟩
    case measure=>simp [intOf];omega
  |true=>
    obtain⟨va,vc,rfl,-⟩:=HO5.o.words.cell;obtain⟨vn,hvn⟩:=Ze ((appS t m s k).words.length);rw [hvn] at HO5;have KW:=Zh (show Calls Tryz.prog 140 #[.agg #[iv m,.slice va vn vc],iv b] w5 (QAd (appS t m s (k+1),0) w5) by
     have h1:=QPg (appS t m s k) b (.slice va vn vc) w5 HO5.o.words (by have:=HO5.o.zw;omega);rw [show setV (appS t m s k) (.slice va vn vc)=.agg #[iv m,.slice va vn vc] by rw [←(QIf t hm s k).width]] at h1;rw [show chgS (appS t m s k) (b:Int) true=(appS t m s (k+1),0) by
      rw [HST.o,if_pos rfl];unfold chgS;rw [if_pos (QIf t hm s k).ok,if_pos ⟨by omega,by rw [(QIf t hm s k).width];omega⟩];simp] at h1
     exact h1)
    obtain⟨o0,o1⟩:=Qq HO5.o.ob;obtain⟨c0,c1⟩:=Qq HC5.o;clear hvn;go_wp2_with fail;refine KW.o.mono ?_;rintro e w6 ⟨fu,rfl,hf,b6⟩;obtain⟨fa,fc,rfl,-⟩:=hf.cell;obtain⟨fn,hfn⟩:=Ze ((appS t m s (k+1)).words.length);have HF6:=Zh (hfn▸hf:Qi w6 (.slice fa fn fc) (appS t m s (k+1)).words);simp only [setV,hfn,(QIf t hm s (k+1)).width];have HO6:=Zh (HO5.o.next b6);have HO7:=Zh (HO6.o.turn HF6.o);clear o0 o1 c0 c1 hf b6 hfn;obtain⟨o0,o1⟩:=Qq HO6.o.ob;have f0:=(Qa HO6.o.ob).2 0;have f1:=(Qa HO6.o.ob).2 1;go_wp2;go_roundw
    case rel=>exact⟨k+1,by omega,by go_num,⟨_,HO7.o⟩⟩
    case measure=>simp [intOf];omega
end
section
open Go.RowKit
variable [Base]
theorem Qja.tw {w:World} {gu ku cu:Value} {t:Qw} (h:Qja w gu ku cu t):QSi t:=⟨h.gen.2,h.kill.2⟩
theorem Qii {w:World}:Qi w (.slice none 0 0) []:=⟨Qg.nil,by simp [QLa]⟩
theorem Qqr {B:Nat} (t:Qw) (gu ku cu:Value) (w:World) (h:Qja w gu ku cu t) (tz:TzIn B w) (hB:B≤w.heap.size):
  Calls Tryz.prog 19 #[trV t gu ku cu] w (QCl (QKg t) w):=by
 have TW:=Zh h.tw;have hbs:Base.b≤w.heap.size:=by have:=tz.bs;omega
 have TZ:=Zh tz;have HT:=Zh h;obtain⟨ga,gc,rfl,-,-,-,-⟩:=h.gen.cell;obtain⟨ka,kc,rfl,-,-,-,-⟩:=h.kill.cell;obtain⟨ca,cc,rfl,-,-,-,-⟩:=h.cops.cell;simp only [trV];obtain⟨gn,hgn⟩:=Ze t.gen.words.length;obtain⟨kn,hkn⟩:=Ze t.kill.words.length;obtain⟨n,hn⟩:=Ze t.cops.length;rw [hgn,hkn,hn] at HT ⊢;obtain⟨z,hz⟩:=Ze w.heap.size;obtain⟨W,hW⟩:=Ze ((w.alloc (.cells #[iv t.gen.width,.slice ga gn gc,iv t.kill.width,.slice ka kn kc,.slice ca n cc] FNA)).alloc (.cells #[iv 0,.slice none 0 0,iv 0,.slice none 0 0,.slice none 0 0] FNA));have HWW:=Zh hW;have HZ:=Zh hz;have BW:=Zh (show Below z w W by rw [←hW,←hz];exact(Zb).alloc (by simp) _);have HX:=Zh (show W.heap[z]? = some (.cells #[iv t.gen.width,.slice ga gn gc,iv t.kill.width,.slice ka kn kc,.slice ca n cc] FNA (0,0)) by rw [←hW,←hz,Below.heap_alloc _ _ _ (by simp)];exact heap_alloc_new _ _);have HR:=Zh (show W.heap[z+1]? = some (.cells #[iv 0,.slice none 0 0,iv 0,.slice none 0 0,.slice none 0 0] FNA (0,0)) by rw [←hW,←hz];exact Qda _ _);have HSZ:=Zh (show W.heap.size=z+2 by rw [←hW,←hz];simp);have HTW:=Zh (HT.o.below (HZ.o▸BW.o));have KV:=Zh (Qng t (.slice ga gn gc) (.slice ka kn kc) (.slice ca n cc) W HTW.o);simp only [trV] at KV;clear h tz hW hgn hkn hn;obtain⟨x0,x1,x2,x3,x4⟩:=QJ HX.o;go_enter Tryz.func19,Tryz.ntmps19;go_upto_region 1 with(fail)
 rw [show(w.alloc (.cells #[iv t.gen.width,.slice ga gn gc,iv t.kill.width,.slice ka kn kc,.slice ca n cc] FNA)).alloc (.cells #[iv 0,.slice none 0 0,iv 0,.slice none 0 0,.slice none 0 0] FNA)=W from HWW.o]
 try rw [hz]
 go_wp2_with fail;refine KV.o.mono ?_;rintro e w1 ⟨rfl,b1⟩;have B1:=Zh b1;have HX1:=Zh (Qc HX.o b1 (Qb HX.o));have HR1:=Zh (Qc HR.o b1 (Qb HR.o));have HT1:=Zh (HTW.o.below b1);have BW1:=Zh (BW.o.trans (b1.mono (by have:=HSZ.o;omega)));clear b1 x0 x1 x2 x3 x4 KV;obtain⟨b,hb⟩:=Ze (Qtd t);rw [hb]
 cases b with
|false=>
  have HC:=Zh (show QKg t=(⟨⟨0,[]⟩,⟨0,[]⟩,[]⟩,1) by unfold QKg;rw [hb];rfl);obtain⟨c0,c1,c2,c3,c4⟩:=QJ HR1.o;have f0:=(Qa HR1.o).2 0;have f1:=(Qa HR1.o).2 1;have f2:=(Qa HR1.o).2 2;have f3:=(Qa HR1.o).2 3;have f4:=(Qa HR1.o).2 4;have E5:=Zh (set5 HR1.o (iv 0) (.slice none 0 0) (iv 0) (.slice none 0 0) (.slice none 0 0));have HB5:=Zh (show Below z w (((((w1.setCell ⟨z+1,0,none⟩ (iv 0)).setCell ⟨z+1,1,none⟩ (.slice none 0 0)).setCell ⟨z+1,2,none⟩ (iv 0)).setCell ⟨z+1,3,none⟩ (.slice none 0 0)).setCell ⟨z+1,4,none⟩ (.slice none 0 0)) from
   ((((BW1.o.setCell (by show z≤z+1;omega) _).setCell (by show z≤z+1;omega) _).setCell (by show z≤z+1;omega) _).setCell (by show z≤z+1;omega) _).setCell (by show z≤z+1;omega) _)
  clear hb;go_wp2;obtain⟨g0,g1,g2,g3,g4⟩:=QJ E5.o;refine bodyPost_ret (v:=.tuple #[.agg #[iv 0,.slice none 0 0,iv 0,.slice none 0 0,.slice none 0 0],iv 1]) (by simp [results,Tryz.results19,go_sem,g0,g1,g2,g3,g4]) rfl ?_;rw [HC.o];exact⟨.slice none 0 0,.slice none 0 0,.slice none 0 0,rfl,⟨Qii,Qii,QKc.nil⟩,by rw [HZ.o];exact HB5.o⟩
|true=>
  obtain⟨m,hgw,hok⟩:=QRi hb TW.o;have HOK:=Zh hok;have HC:=Zh (show QKg t=(Qlb t m,0) by unfold QKg;rw [hb,hgw];rfl);have KO:=Zh (QWr m t hok (.slice ga gn gc) (.slice ka kn kc) (.slice ca n cc) w1 HT1.o (by have:=BW1.o.size;omega));simp only [trV] at KO;have HGW:=Zh hgw;clear hb hok hgw;obtain⟨x0,x1,x2,x3,x4⟩:=QJ HX1.o;go_wp2_with fail;refine KO.o.mono ?_;rintro e w2 ⟨ru,ofv,rfl,hru,hrow,b2⟩;have B2:=Zh (BW1.o.trans (b2.mono (by have:=BW1.o.size;omega)));have HR2:=Zh (Qc HR1.o b2 (Qb HR1.o));have KCl:=Zh (Qnr (B:=B) m t HOK.o ru ofv w2 hru hrow (TZ.o.below (B2.o.mono (by have:=HZ.o;omega))) (by have:=B2.o.size;have:=HZ.o;omega));clear hru hrow b2 x0 x1 x2 x3 x4;rw [HGW.o];go_wp2_with fail;refine KCl.o.mono ?_;rintro e w3 ⟨au,bu,cu,rfl,ht,b3⟩;obtain⟨aa,ac,rfl,-,-,-,-⟩:=ht.gen.cell;obtain⟨ba,bc,rfl,-,-,-,-⟩:=ht.kill.cell;obtain⟨da,dc,rfl,-,-,-,-⟩:=ht.cops.cell;simp only [trV];obtain⟨an,han⟩:=Ze ((Qlb t m).gen.words.length);obtain⟨bn,hbn⟩:=Ze ((Qlb t m).kill.words.length);obtain⟨dn,hdn⟩:=Ze ((Qlb t m).cops.length);rw [han,hbn,hdn] at ht ⊢;obtain⟨aw,haw⟩:=Ze ((Qlb t m).gen.width);obtain⟨bw,hbw⟩:=Ze ((Qlb t m).kill.width);rw [haw,hbw];have HAW:=Zh haw;have HBW:=Zh hbw;have HT3:=Zh ht;have B3:=Zh (B2.o.trans (b3.mono (by have:=B2.o.size;omega)));have HR3:=Zh (Qc HR2.o b3 (Qb HR2.o));clear ht b3 han hbn hdn haw hbw;obtain⟨c0,c1,c2,c3,c4⟩:=QJ HR3.o;have f0:=(Qa HR3.o).2 0;have f1:=(Qa HR3.o).2 1;have f2:=(Qa HR3.o).2 2;have f3:=(Qa HR3.o).2 3;have f4:=(Qa HR3.o).2 4;have E5:=Zh (set5 HR3.o (iv aw) (.slice aa an ac) (iv bw) (.slice ba bn bc) (.slice da dn dc));have HS:=Zh (fun (T:TypeId) (hne:T≠FNA)=>Quc (T:=T) (Qv HR3.o (by have:=HZ.o;omega)) hne (iv aw) (.slice aa an ac) (iv bw) (.slice ba bn bc) (.slice da dn dc));have HT5:=Zh (HT3.o.keep (HS.o _ (by decide)) (HS.o _ (by decide)));have HB5:=Zh (show Below z w (((((w3.setCell ⟨z+1,0,none⟩ (iv aw)).setCell ⟨z+1,1,none⟩ (.slice aa an ac)).setCell ⟨z+1,2,none⟩ (iv bw)).setCell ⟨z+1,3,none⟩ (.slice ba bn bc)).setCell ⟨z+1,4,none⟩ (.slice da dn dc)) from
   ((((B3.o.setCell (by show z≤z+1;omega) _).setCell (by show z≤z+1;omega) _).setCell (by show z≤z+1;omega) _).setCell (by show z≤z+1;omega) _).setCell (by show z≤z+1;omega) _)
  go_wp2;obtain⟨g0,g1,g2,g3,g4⟩:=QJ E5.o;refine bodyPost_ret (v:=.tuple #[.agg #[iv aw,.slice aa an ac,iv bw,.slice ba bn bc,.slice da dn dc],iv 0]) (by simp [results,Tryz.results19,go_sem,g0,g1,g2,g3,g4]) rfl ?_;rw [HC.o];exact⟨.slice aa an ac,.slice ba bn bc,.slice da dn dc,by rw [show trV (Qlb t m,(0:Int)).1 (.slice aa an ac) (.slice ba bn bc) (.slice da dn dc)=.agg #[iv (Qlb t m).gen.width,.slice aa an ac,iv (Qlb t m).kill.width,.slice ba bn bc,.slice da dn dc] from rfl,HAW.o,HBW.o],HT5.o,by rw [HZ.o];exact HB5.o⟩
end
section
open Go
section
variable {P:Program} {ops:Array Oper} {Q:Exit→Act→World→Prop} {md:Region.Mode}
theorem Qs {K:Act→World→Prop} (i:Nat) (d:Option Tmp) (v:Value) (w':World) {oi:Oper} {a:Act} {w:World} (hi:ops[i]? = some oi)
  (hwant:Region.wanted oi (yielded ops a.tmps)=true) (hrun:(execOp a.eval oi).run P w=.ok (.value v) w') (hd:oi.dst=d) (h:K (a.put d v) w'):wpOp P ops Q i K a w:=by
 subst hd;unfold wpOp;rw [hi];show if Region.wanted oi (yielded ops a.tmps) then _ else _
 rw [if_pos hwant];left;unfold Oper.wp;rw [hrun,Oper.upon_value];exact h
theorem QQ {K:Act→World→Prop} (i:Nat) (d:Option Tmp) (w':World) {oi:Oper} {a:Act} {w:World} (hi:ops[i]? = some oi)
  (hwant:Region.wanted oi (yielded ops a.tmps)=true) (hrun:(execOp a.eval oi).run P w=.ok .skip w') (hd:oi.dst=d) (h:K (a.put d undef) w'):wpOp P ops Q i K a w:=by
 subst hd;unfold wpOp;rw [hi];show if Region.wanted oi (yielded ops a.tmps) then _ else _
 rw [if_pos hwant];left;unfold Oper.wp;rw [hrun,Oper.upon_skip];exact h
theorem Qla {K:Act→World→Prop} (i:Nat) (d:Option Tmp) (fn:FuncId) (vals:Array Value) {oi:Oper} {a:Act} {w:World} (hi:ops[i]? = some oi)
  (hwant:Region.wanted oi (yielded ops a.tmps)=true) (hrun:(execOp a.eval oi).run P w=.ok (.enter fn vals) w) (hd:oi.dst=d)
  (hc:Calls P fn vals w fun e w'=>∃v,e=.returned v∧K (a.put d v) w'):wpOp P ops Q i K a w:=by
 subst hd;unfold wpOp;rw [hi];show if Region.wanted oi (yielded ops a.tmps) then _ else _
 rw [if_pos hwant];left;unfold Oper.wp;rw [hrun,Oper.upon_enter];refine hc.mono ?_;rintro e w' ⟨v,rfl,h⟩;exact h
end
end
section
open Go.RowKit
variable [Base]
theorem QPl {s:QD} (h:stmtB s=true):1≤s.op∧s.op≤9:=by
 unfold stmtB opB at h;simp only [Bool.and_eq_true] at h;have h4:=h.2.2
 split at h4
 ·omega
 split at h4
 ·omega
 split at h4
 ·omega
 split at h4
 ·omega
 split at h4
 ·omega
 split at h4
 ·omega
 split at h4
 ·omega
 ·cases h4
def effN (o k:Nat):Nat:=
 match o,k with
|1,1=>3|1,2=>9|1,3=>17|1,4=>17
|4,1=>3|4,2=>1|4,3=>5|4,4=>1
|6,1=>3|6,2=>1|6,3=>1|6,4=>1
|2,2=>8|5,2=>8|8,2=>8
|_,_=>0
structure Qmg (B:Nat) (w:World):Prop where
 g:0<B
 bs:Base.b≤B
 tab:∀o k,o<10→k<5→w.cell? ⟨0,o*5+k,none⟩=some (iv (effN o k))
theorem Qmg.below {B:Nat} {w w':World} (h:Qmg B w) (hb:Below B w w'):Qmg B w':=⟨h.g,h.bs,fun o k ho hk=>(hb.cell (p:=⟨0,o*5+k,none⟩) h.g).trans (h.tab o k ho hk)⟩
def Qgp (r:Qw) (w:World) (e:Ending) (w':World):Prop:=∃gu ku cu,e=.returned (trV r gu ku cu)∧Qja w' gu ku cu r∧Below w.heap.size w w'
theorem QFt {w:World} (a b c d:Obj):((((w.alloc a).alloc b).alloc c).alloc d).heap[w.heap.size+1+1+1]? = some d:=by
 have h:=heap_alloc_new (((w.alloc a).alloc b).alloc c) d;rw [World.size_alloc,World.size_alloc,World.size_alloc] at h;exact h
abbrev SMT:TypeId:=94
theorem QEs:∀o,o<10→∀k,k<5→(bits BinOp.and IntKind.i64 (effN o k:Int) 1 != 0)=(decide (1≤k)&&(o==1||o==4||o==6))∧(bits BinOp.and IntKind.i64 (effN o k:Int) 2 != 0)=(decide (k=1)&&(o==1||o==4||o==6)) ∧
  (bits BinOp.and IntKind.i64 (effN o k:Int) 4 != 0)=(decide (k=3)&&decide (o=4))∧(bits BinOp.and IntKind.i64 (effN o k:Int) 8 != 0)=(decide (k=2)&&(o==1||o==2||o==5||o==8)) ∧
  (bits BinOp.and IntKind.i64 (effN o k:Int) 16 != 0)=(decide (k=3∨k=4)&&decide (o=1)):=by decide
theorem Qws {l:List Int} {m:Nat} (h:∀x∈l,0≤x∧x<(m:Int)):0≤l.headD 0∧l.headD 0≤(m:Int):=by
 cases l with
|nil=>simp
|cons x r=>
  have:=h x (by simp);simp only [List.headD_cons];omega
theorem set5a {w:World} {b:Nat} {a0 a1 a2 a3 a4:Value} {t:TypeId} {fr:Nat×Nat} (h:w.heap[b]? = some (.cells #[a0,a1,a2,a3,a4] t fr)) (x0 x1:Value):
  ((w.setCell ⟨b,0,none⟩ x0).setCell ⟨b,1,none⟩ x1).heap[b]? = some (.cells #[x0,x1,a2,a3,a4] t fr):=by
 simp [World.setCell,Array.getElem?_modify,h]
theorem set5b {w:World} {b:Nat} {a0 a1 a2 a3 a4:Value} {t:TypeId} {fr:Nat×Nat} (h:w.heap[b]? = some (.cells #[a0,a1,a2,a3,a4] t fr)) (x0 x1:Value):
  ((w.setCell ⟨b,2,none⟩ x0).setCell ⟨b,3,none⟩ x1).heap[b]? = some (.cells #[a0,a1,x0,x1,a4] t fr):=by
 simp [World.setCell,Array.getElem?_modify,h]
theorem QAj {w:World} {v:Value} {c:Int} (h:QJa w v [c]):∃b o cap,v=.slice (some ⟨b,o,none⟩) 1 cap∧b<w.heap.size∧w.cell? ⟨b,o,none⟩=some (iv c):=by
 obtain⟨a,cc,rfl,-,-,-,hc⟩:=h.cell;obtain⟨b,o,rfl,h1,h2⟩:=hc 0 c rfl;exact⟨b,o,cc,rfl,h1,by simpa using h2⟩
theorem Qhr {α β:Type} {l:List α} {k:Nat} {x:α} (f:α→List β) (h:l[k]? = some x):((l.take (k+1)).map f).flatten=((l.take k).map f).flatten++f x:=by
 rw [List.take_add_one,h];simp
theorem map_take {α β:Type} {l:List α} {k:Nat} {x:α} (f:α→β) (h:l[k]? = some x):(l.take (k+1)).map f=(l.take k).map f++[f x]:=by
 rw [List.take_add_one,h];simp
theorem QGk {α:Type} (f:α→List Int) {m:Nat} (hf:∀x,(f x).length≤m):∀l:List α,(l.map f).flatten.length≤l.length*m
|[]=>by simp
|x::r=>by
  have:=QGk f hf r
  have:=hf x
  simp only [List.map_cons,List.flatten_cons,List.length_append,List.length_cons,Nat.add_mul]
  omega
theorem QWb {z n k sz sz2:Nat} {T U:TypeId} {w w':World} {v v2:Value} {xs ys:List Value} (h:w.ownsRow z T sz v n xs) (ho:w.ownsRow z U sz2 v2 k ys) (hg:w.grownBy w' v2.ownBlock) (hne:T≠U) (hbs:Base.b≤z:=by omega):w'.ownsRow z T sz v n xs:=by
 refine⟨h.1,?_⟩;rcases h.2 with hn|⟨g,cap,cur,rfl,hb,hh,rest⟩
 ·exact .inl hn
 ·exact .inr ⟨g,cap,cur,rfl,hb,(Qf.grown hg ho hne).own hh,rest⟩
theorem Qrg (w:World) {a b:Value}:Qg (w.alloc (.cells #[a,b] CT)) CT 2 (.slice (some ⟨w.heap.size,0,none⟩) 1 1) [a,b]:=
 Qg.new [a,b] 1 rfl (by unfold maxLen;omega)
theorem QSm (l:List Qra) (v:Int):(QGa l v).length≤l.length:=Qbm _ _
theorem Qxs {B:Nat} {p:List Qo} {kind:Nat} (h:Qxb p kind=0) {i:Nat} {n:Qx} {s:QD} (hn:QOd p i n s) (hs:QFd p n=some s) (fv vv u t:Value) (w:World) (ef:Qmg B w) (tz:TzIn B w) (hB:B≤w.heap.size)
  (hfv:Qqd w fv (QC p kind)) (hvv:Qea w vv (QN p)) (hu:Qea w u s.uses) (ht:Qea w t s.targets):
  Calls Tryz.prog 48 #[.agg #[iv kind,fv,vv],iv i,.agg #[iv s.op,sv s.dfn,u,t]] w (Qgp (Qlb (rawT (QN p) (QC p kind) kind i s) (QC p kind).length) w):=by
 have hfz:=Qkb h;obtain⟨on,hon,ho10⟩:∃o:Nat,s.op=(o:Int)∧o<10:=by
  have h1:=QPl hn.stmtB;exact⟨s.op.toNat,by omega,by omega⟩
 have hk4:kind<5:=by omega
 have hm:=hfz.2.2.2.2;have HN:=Zh hn;have HS:=Zh hs;have HH:=Zh h;have HON:=Zh hon;have FV:=Zh hfv;have VV:=Zh hvv;have UU:=Zh hu;obtain⟨fa,fc,rfl,-,-,-,-⟩:=hfv.cell;obtain⟨va,vc,rfl,-,-⟩:=hvv.cell;obtain⟨ua,uc,rfl,hul,huc⟩:=hu.cell;obtain⟨ta,tc,rfl,-,-⟩:=ht.cell;have HUC:=Zh huc;obtain⟨m,hml⟩:=Ze ((QC p kind).length);obtain⟨vn,hvn⟩:=Ze ((QN p).length);obtain⟨un,hun⟩:=Ze s.uses.length;obtain⟨tn,htn⟩:=Ze s.targets.length;rw [hml] at FV hm;rw [hvn] at VV;rw [hun] at UU hul;rw [hml,hvn,hun,htn,hon];have HML:=Zh hml;have HUN:=Zh hun;obtain⟨z,hz⟩:=Ze w.heap.size;obtain⟨W,hW⟩:=Ze ((((w.alloc (.cells #[iv kind,.slice fa m fc,.slice va vn vc] TBT)).alloc (.cells #[iv i] 3)).alloc (.cells #[iv on,sv s.dfn,.slice ua un uc,.slice ta tn tc] SMT)).alloc (.cells #[iv 0,.slice none 0 0,iv 0,.slice none 0 0,.slice none 0 0] FNA));have HZ:=Zh hz;have HWW:=Zh hW;have BW:=Zh (show Below z w W by rw [←hW,←hz];exact(((Zb).alloc (by simp) _).alloc (by simp;omega) _).alloc (by simp;omega) _);have HT:=Zh (show W.heap[z]? = some (.cells #[iv kind,.slice fa m fc,.slice va vn vc] TBT (0,0)) by rw [←hW,←hz,Below.heap_alloc _ _ _ (by simp;omega),Below.heap_alloc _ _ _ (by simp;omega),Below.heap_alloc _ _ _ (by simp)];exact heap_alloc_new _ _);have HI:=Zh (show W.heap[z+1]? = some (.cells #[iv i] 3 (0,0)) by rw [←hW,←hz,Below.heap_alloc _ _ _ (by simp),Below.heap_alloc _ _ _ (by simp)];exact Qda _ _);have HSB:=Zh (show W.heap[z+1+1]? = some (.cells #[iv on,sv s.dfn,.slice ua un uc,.slice ta tn tc] SMT (0,0)) by rw [←hW,←hz,Below.heap_alloc _ _ _ (by simp)];exact Qll _ _ _);have HRB:=Zh (show W.heap[z+1+1+1]? = some (.cells #[iv 0,.slice none 0 0,iv 0,.slice none 0 0,.slice none 0 0] FNA (0,0)) by rw [←hW,←hz];exact QFt _ _ _ _);have HSZ:=Zh (show W.heap.size=z+4 by rw [←hW,←hz];simp);have HEF:=Zh (ef.below (BW.o.mono (by omega)));obtain⟨e,hee⟩:=Ze (effN on kind);have HE:=Zh hee;have ge:=HEF.o.tab on kind ho10 hk4;rw [hee] at ge;obtain⟨fb1,fb2,fb3,fb4,fb5⟩:=QEs on ho10 kind hk4;rw [hee] at fb1 fb2 fb3 fb4 fb5;obtain⟨b1,hb1⟩:=Ze ((decide (1≤kind)&&(on==1||on==4||on==6)));obtain⟨b2,hb2⟩:=Ze ((decide (kind=1)&&(on==1||on==4||on==6)));obtain⟨b3,hb3⟩:=Ze ((decide (kind=3)&&decide (on=4)));obtain⟨b4,hb4⟩:=Ze ((decide (kind=2)&&(on==1||on==2||on==5||on==8)));obtain⟨b5,hb5⟩:=Ze ((decide (kind=3∨kind=4)&&decide (on=1)));rw [hb1] at fb1;rw [hb2] at fb2;rw [hb3] at fb3;rw [hb4] at fb4;rw [hb5] at fb5;have hdfn:dfnB s.op=(on==1||on==4||on==6):=by
  unfold dfnB;rw [hon,Bool.eq_iff_iff];simp only [Bool.or_eq_true,beq_iff_eq];omega
 have huse:useB s.op=(on==1||on==2||on==5||on==8):=by
  unfold useB;rw [hon,Bool.eq_iff_iff];simp only [Bool.or_eq_true,beq_iff_eq];omega
 obtain⟨F,hF⟩:=Ze (QC p kind);obtain⟨VS,hVS⟩:=Ze (QN p);obtain⟨D,hD⟩:=Ze (QGa F (idxI VS s.dfn));obtain⟨oi,hoi⟩:=Ze (ownF F i);have HKL:=Zh (show QQh (QN p) (QC p kind) s=(if b1=true then D else []) by
  unfold QQh;rw [hF,hVS,hD,hdfn,←hb1];have e1:(on==1||on==4||on==6)=(decide (1≤kind)&&(on==1||on==4||on==6)):=by rw [show decide (1≤kind)=true by simp;omega];rfl
  rw [←e1])
 have HGL:=Zh (show Qgg (QN p) (QC p kind) kind i s=(if b2=true then [oi] else [])++((if b3=true then D else [])++(if b4=true then (s.uses.map fun u=>QGa F (idxI VS u)).flatten else [])) by
  unfold Qgg;rw [hF,hVS,hD,hoi,hdfn,huse,hon,←hb2,←hb3,←hb4];have e1:((kind:Int)=1∧(on==1||on==4||on==6)=true)↔(decide (kind=1)&&(on==1||on==4||on==6))=true:=by
   rw [Bool.and_eq_true,decide_eq_true_eq];constructor <;>(rintro⟨h1,h2⟩;exact⟨by omega,h2⟩)
  have e3:((kind:Int)=3∧(on:Int)=4)↔(decide (kind=3)&&decide (on=4))=true:=by simp only [Bool.and_eq_true,decide_eq_true_eq];omega
  have e4:((kind:Int)=2∧(on==1||on==2||on==5||on==8)=true)↔(decide (kind=2)&&(on==1||on==2||on==5||on==8))=true:=by
   rw [Bool.and_eq_true,decide_eq_true_eq];constructor <;>(rintro⟨h1,h2⟩;exact⟨by omega,h2⟩)
  simp only [e1,e3,e4])
 have HPL:=Zh (show QTe (QN p) (QC p kind) kind s=(if b5=true then s.uses.map fun u=>((QGa F (idxI VS u)).headD 0,D.headD 0) else []) by
  unfold QTe;rw [hF,hVS,hD,hon,←hb5];have e5:(((kind:Int)=3∨(kind:Int)=4)∧(on:Int)=1)↔(decide (kind=3∨kind=4)&&decide (on=1))=true:=by simp only [Bool.and_eq_true,decide_eq_true_eq];omega
  simp only [e5])
 have HONE:=Zh (show b5=true→(∃d,D=[d])∧∀x∈s.uses,∃c,QGa F (idxI VS x)=[c] from fun hb=>by
  rw [hb] at hb5;simp only [Bool.and_eq_true,decide_eq_true_eq] at hb5;have hk1:((kind:Nat):Int)≠1:=by omega
  rw [←hD,←hF,←hVS];exact⟨⟨_,Qac h hk1 (hn.dfn (by rw [hon,hb5.2];rfl))⟩,fun x hx=>⟨_,Qac h hk1 (hn.uses x hx)⟩⟩)
 have HFL:=Zh (show ∀v,(QGa F v).length≤m from fun v=>by rw [←hF,←hml];exact QSm _ _);have hDL:D.length≤256:=by rw [←hD];exact Nat.le_trans (HFL.o _) hm
 have KF:=Zh (show ∀x wx,Below w.heap.size w wx→Calls Tryz.prog 109 #[.agg #[iv kind,.slice fa m fc,.slice va vn vc],sv x] wx (QWk (QGa F (idxI VS x)) wx) from fun x wx b=>by
  rw [←hF,←hVS];exact QJt kind _ _ _ _ x wx (FV.o.below b) (Qg.same VV.o (Qf.below b)) (by rw [hml];omega) (by have:=b.size;have:=tz.bs;omega))
 have KD:=Zh (show ∀wx,Below w.heap.size w wx→Calls Tryz.prog 109 #[.agg #[iv kind,.slice fa m fc,.slice va vn vc],sv s.dfn] wx (QWk D wx) from fun wx b=>by
  rw [←hD];exact KF.o s.dfn wx b)
 have KO:=Zh (show ∀wx,Below W.heap.size W wx→Calls Tryz.prog 110 #[.slice fa m fc,.func (.func 111) #[] #[.pointer (some ⟨z+1,0,none⟩)]] wx (IntQ oi wx) from fun wx b=>by
  rw [←hoi,←hF];have h1:=Qc HI.o b (Qb HI.o);exact QTr _ _ (z+1) i wx (FV.o.below (HZ.o▸(BW.o.trans (b.mono (by have:=HSZ.o;omega))))) (by have:=(Qa h1).1 0;simpa using this) (by have:=Qb h1;omega))
 have TZ:=Zh tz;have hbz:Base.b≤z:=by have:=tz.bs;omega
 have hWz:W.heap.size=z+4:=HSZ.o;clear hn hs h hon hfv hvv hu ht huc hml hvn hun htn hfz hW ef hee tz hb1 hb2 hb3 hb4 hb5 hdfn huse hF hVS hD hoi;obtain⟨x0,x1,x2⟩:=QVa HT.o;obtain⟨s0,s1,s2,s3⟩:=Qt HSB.o;go_enter Tryz.func48,Tryz.ntmps48;go_upto_region 1 with(fail)
 rw [show(((w.alloc (.cells #[iv kind,.slice fa m fc,.slice va vn vc] TBT)).alloc (.cells #[iv i] 3)).alloc (.cells #[iv on,sv s.dfn,.slice ua un uc,.slice ta tn tc] SMT)).alloc (.cells #[iv 0,.slice none 0 0,iv 0,.slice none 0 0,.slice none 0 0] FNA)=W from HWW.o]
 try rw [hz]
 go_quiet (fail);obtain⟨V,hV⟩:=Ze (W.drewN nq);rw [hV];have HBV:=Zh (show Below W.heap.size W V by rw [←hV];exact Qp (Below.refl _ _) _);clear hV ge x0 x1 x2 s0 s1 s2 s3;have HCEL:=Zh (show ∀wx,Below W.heap.size W wx→(wx.heap[z]? = some (.cells #[iv kind,.slice fa m fc,.slice va vn vc] TBT (0,0))∧wx.heap[z+1+1]? = some (.cells #[iv on,sv s.dfn,.slice ua un uc,.slice ta tn tc] SMT (0,0))∧wx.heap[z+1+1+1]? = some (.cells #[iv 0,.slice none 0 0,iv 0,.slice none 0 0,.slice none 0 0] FNA (0,0))) from fun wx b=>
  ⟨Qc HT.o b (Qb HT.o),Qc HSB.o b (Qb HSB.o),Qc HRB.o b (Qb HRB.o)⟩)
 obtain⟨x0,x1,x2⟩:=QVa (HCEL.o V HBV.o).1;go_upto_if 29 with(fail)
 clear x0 x1 x2;have HZW:=Zh (show ∀wx,Below W.heap.size W wx→Below w.heap.size w wx from fun wx b=>HZ.o▸(BW.o.trans (b.mono (by omega))));go_cut [10] from 30 to 33 (fun s10 wx=>∃ka kn kc,s10=.slice ka kn kc∧Hid (Below W.heap.size W wx)∧Hid (QJa wx (.slice ka kn kc) (if b1=true then D else [])))
 case first=>
  cases b1 with
 |true=>
   obtain⟨c1,c2,-⟩:=HCEL.o V HBV.o;obtain⟨x0,x1,x2⟩:=QVa c1;obtain⟨s0,s1,s2,s3⟩:=Qt c2;clear c1 c2;go_wp2_with fail;refine(KD.o V (HZW.o V HBV.o)).mono ?_;rintro e w1 ⟨kv,rfl,hk,b1'⟩;have HB1:=Zh (HBV.o.trans (b1'.mono HBV.o.size));obtain⟨ka,kc,rfl,-⟩:=hk.cell;have HK:=Zh hk;clear hk b1';go_wp2;go_meet
   case rel=>exact⟨_,_,_,rfl,HB1.o,HK.o⟩
 |false=>
   go_wp2;go_meet
   case rel=>exact⟨none,0,0,rfl,HBV.o,by unfold Hid;simpa using QJa.nil⟩
 case rest=>
  obtain⟨ka,kn,kc,rfl,HB1,HK1⟩:=hcut;obtain⟨y,hy⟩:=Ze wc.heap.size;obtain⟨wk,rfl⟩:∃x:World,x=wc:=⟨_,rfl⟩;have hyz:z+4≤y:=by have:=HB1.o.size;omega
  have HY:=Zh hy;have HYW:=Zh (show ∀wx,Below y wk wx→Below W.heap.size W wx from fun wx b=>HB1.o.trans (b.mono (by have:=HB1.o.size;omega)));clear hy HBV;go_upto_if 36 with(fail)
  go_cut [9] from 37 to 43 (fun s9 wx=>∃ga gn gc,s9=.slice ga gn gc∧Hid (Below y wk wx)∧Hid (OwnI y wx (.slice ga gn gc) (if b2=true then [oi] else []))∧gn=(if b2=true then [oi] else []).length)
  case first=>
   have hBk:Below y wk wk:=Below.refl _ _
   cases b2 with
  |true=>
    obtain⟨c1,c2,-⟩:=HCEL.o wk HB1.o;obtain⟨x0,x1,x2⟩:=QVa c1;clear c1 c2;go_wp2_with fail;refine(KO.o wk HB1.o).mono ?_;rintro e w1 ⟨rfl,b1'⟩;have HB2:=Zh (show Below y wk w1 from HY.o▸b1');have hyw:y≤w1.heap.size:=by have:=b1'.size;have:=HY.o;omega
    have PUSH:=Zh (show ∀g cap w',w'.ownsRow y 3 1 (.slice (some ⟨g,0,none⟩) (0+1) cap) (0+1) ([]++[iv oi])→w1.grownBy w' (Value.slice none 0 0).ownBlock →
      Below y wk w'∧OwnI y w' (.slice (some ⟨g,0,none⟩) (0+1) cap) [oi] from fun g cap w' ho hg=>
     ⟨HB2.o.trans (Below.of_grown hg (World.ownsRow_nil w1 y 3 1) hyw),ho⟩)
    clear b1' x0 x1 x2;go_wp2_with (at_builtin;refine QL [iv oi] rfl _ _ _ rfl y 3 _ 1 8 Tryz.underlying22 QRa rfl (by omega) _ _ _ (World.ownsRow_nil w1 y 3 1) rfl rfl rfl rfl (by unfold maxLen;omega) (by omega) hyw ?_;intro g cap w9 ho hg hzg _;have HP9:=Zh (PUSH.o g cap w9 ho hg);clear ho hg hzg);go_meet
    case rel=>exact⟨_,_,_,rfl,HP9.o.1,HP9.o.2,rfl⟩
  |false=>
    go_wp2;go_meet
    case rel=>exact⟨none,0,0,rfl,hBk,by unfold Hid;simpa using OwnI.nil,rfl⟩
  case rest=>
   obtain⟨ga,gn,gc,rfl,HB2,HG2,hgn⟩:=hcut;obtain⟨G1,hG1⟩:=Ze ((if b2=true then [oi] else []));have hG1l:G1.length≤1:=by rw [←hG1];split <;> simp
   rw [hG1] at HG2 hgn HGL;subst hgn;obtain⟨w2,rfl⟩:∃x:World,x=wc:=⟨_,rfl⟩;clear hG1;go_upto_if 46 with(fail)
   go_cut [9] from 47 to 52 (fun s9 wx=>∃ga gn gc,s9=.slice ga gn gc∧Hid (Below y wk wx)∧Hid (OwnI y wx (.slice ga gn gc) (G1++(if b3=true then D else [])))∧gn=(G1++(if b3=true then D else [])).length)
   case first=>
    cases b3 with
   |true=>
     obtain⟨c1,c2,-⟩:=HCEL.o w2 (HYW.o _ HB2.o);obtain⟨x0,x1,x2⟩:=QVa c1;obtain⟨s0,s1,s2,s3⟩:=Qt c2;clear c1 c2;go_wp2_with (first
     |(go_at_call 109;refine(KD.o w2 (HZW.o _ (HYW.o _ HB2.o))).mono ?_;rintro e w3 ⟨kv,rfl,hk,b1'⟩
       have HB3:=Zh (HB2.o.trans (b1'.mono (by have:=HB2.o.size;have:=HY.o;omega)));have HO3:=Zh (HG2.o.below b1');obtain⟨da,dc,rfl,-⟩:=hk.cell;have HK:=Zh hk;have hyw:y≤w3.heap.size:=by have:=HB3.o.size;have:=HY.o;omega
       have PUSH:=Zh (show ∀g c w',w'.ownsRow y 3 1 (.slice g (G1.length+D.length) c) (G1.length+D.length) (G1.map iv++D.map iv)→w3.grownBy w' (Value.slice ga G1.length gc).ownBlock →
         Below y wk w'∧OwnI y w' (.slice g (G1.length+D.length) c) (G1++D) from fun g c w' ho hg=>
        ⟨HB3.o.trans (Below.of_grown hg HO3.o hyw),by unfold OwnI;rw [List.length_append,List.map_append];exact ho⟩)
       clear hk b1' x0 x1 x2 s0 s1 s2 s3)
     |(at_builtin;refine wpList_append_sl rfl _ _ 22 rfl y 3 _ 1 8 Tryz.underlying22 QRa rfl (by decide) _ _ _ HO3.o rfl _ D.length (D.map iv) rfl HK.o (by simp) (by simp [Value.oneCell']) (by unfold maxLen;omega) (by omega) hyw ?_;intro g c w9 ho hg;have HP9:=Zh (PUSH.o g c w9 ho hg);clear ho hg))
     go_meet
     case rel=>exact⟨_,_,_,rfl,HP9.o.1,by rw [if_pos (by simp)];exact HP9.o.2,by rw [if_pos (by simp),List.length_append]⟩
   |false=>
     go_wp2;go_meet
     case rel=>exact⟨_,_,_,rfl,HB2.o,by rw [if_neg (by simp),List.append_nil];exact HG2.o,by rw [if_neg (by simp),List.append_nil]⟩
   case rest=>
    obtain⟨ga,gn,gc,rfl,HB3,HG3,hgn⟩:=hcut;obtain⟨G2,hG2⟩:=Ze (G1++(if b3=true then D else []));have hG2l:G2.length≤300:=by
     rw [←hG2,List.length_append]
     split
     ·omega
     ·rw [List.length_nil];omega
    rw [hG2] at HG3 hgn;rw [←List.append_assoc,hG2] at HGL;subst hgn;obtain⟨w3,rfl⟩:∃x:World,x=wc:=⟨_,rfl⟩;obtain⟨UF,hUF⟩:∃f:Str→List Int,(fun u=>QGa F (idxI VS u))=f:=⟨_,rfl⟩;have HUF:=Zh hUF;have hUFx:∀x,QGa F (idxI VS x)=UF x:=fun x=>congrFun hUF x
    have KU:=Zh (show ∀x wx,Below w.heap.size w wx→Calls Tryz.prog 109 #[.agg #[iv kind,.slice fa m fc,.slice va vn vc],sv x] wx (QWk (UF x) wx) from fun x wx b=>by rw [←hUFx];exact KF.o x wx b);simp only [hUFx] at HGL HPL HONE HFL;have HUL:=Zh (show ∀x,(UF x).length≤256 from fun x=>by rw [←hUFx];exact Nat.le_trans (HFL.o _) hm);clear hG2 hUF hUFx;obtain⟨c1,c2,-⟩:=HCEL.o w3 (HYW.o _ HB3.o);obtain⟨s0,s1,s2,s3⟩:=Qt c2;clear c1 c2;go_wp2;clear s0 s1 s2 s3;go_loopw [9,11,56] (fun s9 s11 q wr=>∃k:Nat,k≤un∧q=.int .i64 k∧Hid (Below y wk wr)∧Hid (OwnI y wr s9 (G2++(if b4=true then ((s.uses.take k).map UF).flatten else [])))∧Hid (Qya y wr s11 (if b5=true then (s.uses.take k).map fun u=>((UF u).headD 0,D.headD 0) else []))) (fun _ _ q _=>un-(intOf q).toNat)
    case atStart=>exact⟨0,Nat.zero_le _,rfl,HB3.o,by unfold Hid;simpa using HG3.o,by unfold Hid;simpa using Qya.nil⟩
    case round=>
     rename_i s9 s11 _;obtain⟨k,hk,rfl,HBr,HGr,HPr⟩:=hrel;obtain⟨ra,rc,rfl,-⟩:=HGr.o.shape;obtain⟨pa,pc,rfl,-⟩:=QXa HPr.o;obtain⟨GR,hGR⟩:=Ze (G2++(if b4=true then ((s.uses.take k).map UF).flatten else []));obtain⟨PR,hPR⟩:=Ze ((if b5=true then (s.uses.take k).map fun u=>((UF u).headD 0,D.headD 0) else []));have hun4:un≤4:=by rw [←HUN.o];exact(Qje HN.o.stmtB).2
     have hGRl:GR.length≤300+4*256:=by
      rw [←hGR,List.length_append]
      split
      ·have h1:=QGk UF HUL.o (s.uses.take k);have h2:(s.uses.take k).length≤4:=by rw [List.length_take];omega
       have h3:(s.uses.take k).length*256≤4*256:=Nat.mul_le_mul_right _ h2;omega
      ·simp;omega
     have hPRl:PR.length≤4:=by
      rw [←hPR]
      split
      ·rw [List.length_map,List.length_take];omega
      ·simp
     rw [hGR] at HGr;rw [hPR] at HPr;rw [hGR,hPR];by_cases hlt:k<un
     ·obtain⟨x,hx⟩:∃x,s.uses[k]? = some x:=⟨_,List.getElem?_eq_getElem (by rw [HUN.o];exact hlt)⟩;obtain⟨xb,xo,rfl,hxb,g1⟩:=HUC.o k x hx;have g1:=((HZW.o _ (HYW.o _ HBr.o)).cell (p:=⟨xb,xo+k,none⟩) hxb).trans g1;have HGS:=Zh (show G2++(if b4=true then ((s.uses.take (k+1)).map UF).flatten else [])=GR++(if b4=true then UF x else []) by
       rw [←hGR]
       split
       ·rw [Qhr UF hx,List.append_assoc]
       ·simp)
      have HPS:=Zh (show(if b5=true then (s.uses.take (k+1)).map fun u=>((UF u).headD 0,D.headD 0) else [])=PR++(if b5=true then [((UF x).headD 0,D.headD 0)] else []) by
       rw [←hPR]
       split
       ·rw [map_take _ hx]
       ·simp)
      have HX:=Zh (show x∈s.uses from List.mem_of_getElem? hx);clear hGR hPR hx;go_upto_if 62 with(fail)
      clear g1;go_cut [9] from 63 to 67 (fun s9 wx=>∃ga gc,s9=.slice ga (GR++(if b4=true then UF x else [])).length gc∧Hid (Below y wk wx)∧Hid (OwnI y wx (.slice ga (GR++(if b4=true then UF x else [])).length gc) (GR++(if b4=true then UF x else [])))∧Hid (Qya y wx (.slice pa PR.length pc) PR))
      case first=>
       cases b4 with
      |true=>
        obtain⟨c1,c2,-⟩:=HCEL.o wr (HYW.o _ HBr.o);obtain⟨x0,x1,x2⟩:=QVa c1;clear c1 c2;go_wp2_with (first
        |(go_at_call 109;refine(KU.o x wr (HZW.o _ (HYW.o _ HBr.o))).mono ?_;rintro e w4 ⟨kv,rfl,hk,b1'⟩
          have HB4:=Zh (HBr.o.trans (b1'.mono (by have:=HBr.o.size;have:=HY.o;omega)));have HO4:=Zh (HGr.o.below b1');have HP4:=Zh (HPr.o.below b1');obtain⟨da,dc,rfl,-⟩:=hk.cell;have HK:=Zh hk;have hyw:y≤w4.heap.size:=by have:=HB4.o.size;have:=HY.o;omega
          have hUX:=HUL.o x;have PUSH:=Zh (show ∀g c w',w'.ownsRow y 3 1 (.slice g (GR.length+(UF x).length) c) (GR.length+(UF x).length) (GR.map iv++(UF x).map iv)→w4.grownBy w' (Value.slice ra GR.length rc).ownBlock →
            Below y wk w'∧OwnI y w' (.slice g (GR.length+(UF x).length) c) (GR++UF x)∧Qya y w' (.slice pa PR.length pc) PR from fun g c w' ho hg=>
           ⟨HB4.o.trans (Below.of_grown hg HO4.o hyw),by unfold OwnI;rw [List.length_append,List.map_append];exact ho,QWb HP4.o HO4.o hg (by decide)⟩)
          clear hk b1' x0 x1 x2)
        |(at_builtin;refine wpList_append_sl rfl _ _ 22 rfl y 3 _ 1 8 Tryz.underlying22 QRa rfl (by decide) _ _ _ HO4.o rfl _ (UF x).length ((UF x).map iv) rfl HK.o (by simp) (by simp [Value.oneCell']) (by unfold maxLen;omega) (by omega) hyw ?_;intro g c w9 ho hg;have HP9:=Zh (PUSH.o g c w9 ho hg);clear ho hg))
        go_meet
        case rel=>exact⟨_,_,by rw [if_pos (by simp),List.length_append],HP9.o.1,by rw [if_pos (by simp),List.length_append];exact HP9.o.2.1,HP9.o.2.2⟩
      |false=>
        go_wp2;go_meet
        case rel=>exact⟨ra,rc,by rw [if_neg (by simp),List.append_nil],HBr.o,by rw [if_neg (by simp),List.append_nil];exact HGr.o,HPr.o⟩
      case rest=>
       obtain⟨ga,gc,rfl,HB4,HG4,HP4⟩:=hcut;obtain⟨w4,rfl⟩:∃x:World,x=wc:=⟨_,rfl⟩;obtain⟨G4,hG4⟩:=Ze ((GR++(if b4=true then UF x else [])).length);rw [hG4] at HG4 ⊢;rw [←HGS.o] at HG4;clear HGr HPr HBr hG4;go_upto_if 70 with(fail)
       cases b5 with
      |false=>
        have HP5:=Zh (show Qya y w4 (.slice pa PR.length pc) (if false=true then (s.uses.take (k+1)).map fun u=>((UF u).headD 0,D.headD 0) else []) by rw [HPS.o];simpa using HP4.o);go_wp2;go_roundw
        case rel=>exact⟨k+1,by omega,by go_num,HB4.o,HG4,HP5⟩
        case measure=>simp [intOf];omega
      |true=>
        obtain⟨⟨d,hd⟩,hu⟩:=HONE.o rfl;obtain⟨c,hc⟩:=hu x HX.o;have HDD:=Zh hd;have KD2:=Zh (hd▸KD.o);have KU2:=Zh (hc▸KU.o x);have HPS2:=Zh (show(if true=true then (s.uses.take (k+1)).map fun u=>((UF u).headD 0,D.headD 0) else [])=PR++[((c:Int),d)] by rw [HPS.o,hc,hd];rfl);clear hc hd hu;go_upto_region 17 with(fail)
        have HSS:=Zh (show ∀w',Below y wk w'→(w'.cell? ⟨z,0,none⟩=some (iv kind)∧w'.cell? ⟨z,1,none⟩=some (.slice fa m fc)∧w'.cell? ⟨z,2,none⟩=some (.slice va vn vc)∧w'.cell? ⟨z+1+1,1,none⟩=some (sv s.dfn)) from fun w' hb=>by
         obtain⟨c1,c2,-⟩:=HCEL.o w' (HYW.o _ hb);obtain⟨a0,a1,a2⟩:=QVa c1;obtain⟨-,a3,-,-⟩:=Qt c2;exact⟨a0,a1,a2,a3⟩)
        have HBD:=Zh (show Below y wk (w4.drewN 1) from Qp HB4.o 1);have HGD:=Zh (show OwnI y (w4.drewN 1) (.slice ga G4 gc) (G2++(if b4=true then ((s.uses.take (k+1)).map UF).flatten else [])) from HG4.o.below (Qp (Below.refl _ _) 1));have HPD:=Zh (show Qya y (w4.drewN 1) (.slice pa PR.length pc) PR from HP4.o.below (Qp (Below.refl _ _) 1));refine QK (S:=fun w'=>w'.cell? ⟨z,0,none⟩=some (iv kind)∧w'.cell? ⟨z,1,none⟩=some (.slice fa m fc)∧w'.cell? ⟨z,2,none⟩=some (.slice va vn vc)∧w'.cell? ⟨z+1+1,1,none⟩=some (sv s.dfn)) (st:=16) (by kernel_rfl) ?_;have hS0:(fun w':World=>w'.cell? ⟨z,0,none⟩=some (iv kind)∧w'.cell? ⟨z,1,none⟩=some (.slice fa m fc)∧w'.cell? ⟨z,2,none⟩=some (.slice va vn vc)∧w'.cell? ⟨z+1+1,1,none⟩=some (sv s.dfn)) (w4.drewN 1):=(HSS.o (w4.drewN 1) HBD.o);refine Zn 0 (some 71) ?v1 hS0 ?run1 ?rest1
        case run1=>intro w hS;obtain⟨s0,s1,s2,s3⟩:=hS;go_simp;rfl
        refine Zn 1 (some 72) ?v2 hS0 ?run2 ?rest2
        case run2=>intro w hS;obtain⟨s0,s1,s2,s3⟩:=hS;go_simp;rfl
        refine Zn 2 (some 73) ?v3 hS0 ?run3 ?rest3
        case run3=>intro w hS;obtain⟨s0,s1,s2,s3⟩:=hS;go_simp;rfl
        refine Zn 6 (some 77) ?v4 hS0 ?run4 ?rest4
        case run4=>intro w hS;obtain⟨s0,s1,s2,s3⟩:=hS;go_simp;rfl
        refine Zn 7 (some 78) ?v5 hS0 ?run5 ?rest5
        case run5=>intro w hS;obtain⟨s0,s1,s2,s3⟩:=hS;go_simp;rfl
        refine Zn 8 (some 79) ?v6 hS0 ?run6 ?rest6
        case run6=>intro w hS;obtain⟨s0,s1,s2,s3⟩:=hS;go_simp;rfl
        refine QP 3 (some 74) 109 #[.agg #[iv kind,.slice fa m fc,.slice va vn vc],sv x] rfl (by kernel_rfl) (by kernel_rfl) (by kernel_rfl) rfl ?_;refine(KU2.o (w4.drewN 1) (HZW.o _ (HYW.o _ HBD.o))).mono ?_;rintro e m1 ⟨cv,rfl,hcv,b1'⟩;obtain⟨cb,cof,ccap,rfl,hcb,c0⟩:=QAj hcv;have HC1:=Zh (show Below y wk m1∧OwnI y m1 (.slice ga G4 gc) (G2++(if b4=true then ((s.uses.take (k+1)).map UF).flatten else []))∧Qya y m1 (.slice pa PR.length pc) PR from⟨HBD.o.trans (b1'.mono (by have:=HBD.o.size;have:=HY.o;omega)),HGD.o.below b1',HPD.o.below b1'⟩);clear hS0 hcv b1';have hS0:=HSS.o m1 HC1.o.1;refine⟨_,rfl,fun _=>hS0,?_⟩;refine Zn 4 (some 75) ?v7 hS0 ?run7 ?rest7
        case run7=>intro w hS;obtain⟨s0,s1,s2,s3⟩:=hS;go_simp;rfl
        refine Qh (rs:=[5,9]) (by kernel_rfl) (by decide) ?_;intro i hi;have hi2:i=5∨i=9:=by simpa using hi
        clear hi;rcases hi2 with rfl|rfl
        ·refine Qs 5 (some 76) (iv c) m1 rfl (by kernel_rfl) ?rwx1 rfl ?_
         case rwx1=>go_simp
         refine⟨fun _=>hS0,?_⟩;refine QP 9 (some 80) 109 #[.agg #[iv kind,.slice fa m fc,.slice va vn vc],sv s.dfn] rfl (by kernel_rfl) (by kernel_rfl) (by kernel_rfl) rfl ?_;refine(KD2.o m1 (HZW.o _ (HYW.o _ HC1.o.1))).mono ?_;rintro e m2 ⟨dv,rfl,hdv,b2'⟩;obtain⟨db,dof,dcap,rfl,hdb,d0⟩:=QAj hdv;have HC2:=Zh (show Below y wk m2∧OwnI y m2 (.slice ga G4 gc) (G2++(if b4=true then ((s.uses.take (k+1)).map UF).flatten else []))∧Qya y m2 (.slice pa PR.length pc) PR from⟨HC1.o.1.trans (b2'.mono (by have:=HC1.o.1.size;have:=HY.o;omega)),HC1.o.2.1.below b2',HC1.o.2.2.below b2'⟩);have e0:m2.cell? ⟨cb,cof,none⟩=some (iv c):=(b2'.cell (p:=⟨cb,cof,none⟩) hcb).trans c0;clear hS0 hdv b2';have hS0:=HSS.o m2 HC2.o.1;refine⟨_,rfl,fun _=>hS0,?_⟩;refine Zn 10 (some 81) ?vx2 hS0 ?runx2 ?restx2
         case runx2=>intro w hS;obtain⟨s0,s1,s2,s3⟩:=hS;go_simp;rfl
         refine QW 11 (some 82) (iv d) m2 rfl (by kernel_rfl) (by kernel_rfl) ?rvx3 rfl (fun _=>hS0) ?_
         case rvx3=>go_simp
         refine Zn 12 (some 83) ?vx4 hS0 ?runx4 ?restx4
         case runx4=>intro w hS;obtain⟨s0,s1,s2,s3⟩:=hS;go_simp;rfl
         have hyw:y≤m2.heap.size:=by have:=HC2.o.1.size;have:=HY.o;omega
         have HAL:=Zh (show Below m2.heap.size m2 (m2.alloc (.cells #[iv c,iv d] CT)) from Zb);have HC3:=Zh (show Below y wk (m2.alloc (.cells #[iv c,iv d] CT))∧OwnI y (m2.alloc (.cells #[iv c,iv d] CT)) (.slice ga G4 gc) (G2++(if b4=true then ((s.uses.take (k+1)).map UF).flatten else []))∧Qya y (m2.alloc (.cells #[iv c,iv d] CT)) (.slice pa PR.length pc) PR from⟨HC2.o.1.trans (HAL.o.mono hyw),HC2.o.2.1.below HAL.o,HC2.o.2.2.below HAL.o⟩);have HNW:=Zh (show Qg (m2.alloc (.cells #[iv c,iv d] CT)) CT 2 (.slice (some ⟨m2.heap.size,0,none⟩) 1 1) [iv c,iv d] from Qrg m2);clear hS0;have hS0:=HSS.o _ HC3.o.1;refine QW 13 (some 84) (.slice (some ⟨m2.heap.size,0,none⟩) 1 1) (m2.alloc (.cells #[iv c,iv d] CT)) rfl (by kernel_rfl) (by kernel_rfl) ?rvx5 rfl (fun _=>hS0) ?_
         case rvx5=>go_simp
         refine QRe 14 (some 85) rfl (by kernel_rfl) (by kernel_rfl) rfl (.tmp 71) (.tmp 84) 53 rfl y CT _ 2 16 Tryz.underlying53 Qbf rfl (by decide) (.slice pa PR.length pc) PR.length (QHa PR) HC3.o.2.2 (by kernel_rfl) _ 1 [iv c,iv d] (by kernel_rfl) HNW.o rfl rfl (by unfold maxLen;omega) (by omega) (by simp;omega) ?_;intro g cp w9 ho hg;have HB9:=Zh (HC3.o.1.trans (Below.of_grown hg HC3.o.2.2 (by simp;omega)):Below y wk w9);have HG9:=Zh (show OwnI y w9 (.slice ga G4 gc) (G2++(if b4=true then ((s.uses.take (k+1)).map UF).flatten else [])) from QWb HC3.o.2.1 HC3.o.2.2 hg (by decide));have HP9:=Zh (show Qya y w9 (.slice g (PR.length+1) cp) (if true=true then (s.uses.take (k+1)).map fun u=>((UF u).headD 0,D.headD 0) else []) by
          rw [HPS2.o];unfold Qya;rw [QYf,List.length_append];exact ho)
         clear hS0 ho hg;have hS0:=HSS.o _ HB9.o;refine⟨fun _=>hS0,?_⟩;refine Zn 15 (some 11) ?vx6 hS0 ?runx6 ?restx6
         case runx6=>intro w hS;obtain⟨s0,s1,s2,s3⟩:=hS;go_simp;rfl
         refine Qu (by kernel_rfl) ?_ _;generalize hA:Act.put _ _ _=A0;simp only [Qba,Qaa,Zu,Zv,Zw] at hA;subst hA;clear c0 d0 hS0;go_wp2;go_roundw
         case rel=>exact⟨k+1,by omega,by go_num,HB9.o,HG9,HP9⟩
         case measure=>simp [intOf];omega
        ·refine Qla 9 (some 80) 109 #[.agg #[iv kind,.slice fa m fc,.slice va vn vc],sv s.dfn] rfl (by kernel_rfl) (by kernel_rfl) rfl ?_;refine(KD2.o m1 (HZW.o _ (HYW.o _ HC1.o.1))).mono ?_;rintro e m2 ⟨dv,rfl,hdv,b2'⟩;obtain⟨db,dof,dcap,rfl,hdb,d0⟩:=QAj hdv;have HC2:=Zh (show Below y wk m2∧OwnI y m2 (.slice ga G4 gc) (G2++(if b4=true then ((s.uses.take (k+1)).map UF).flatten else []))∧Qya y m2 (.slice pa PR.length pc) PR from⟨HC1.o.1.trans (b2'.mono (by have:=HC1.o.1.size;have:=HY.o;omega)),HC1.o.2.1.below b2',HC1.o.2.2.below b2'⟩);have e0:m2.cell? ⟨cb,cof,none⟩=some (iv c):=(b2'.cell (p:=⟨cb,cof,none⟩) hcb).trans c0;clear hS0 hdv b2';have hS0:=HSS.o m2 HC2.o.1;refine⟨_,rfl,fun _=>hS0,?_⟩;refine Zn 10 (some 81) ?vx7 hS0 ?runx7 ?restx7
         case runx7=>intro w hS;obtain⟨s0,s1,s2,s3⟩:=hS;go_simp;rfl
         refine Qh (rs:=[5,11]) (by kernel_rfl) (by decide) ?_;intro i hi;have hi2:i=5∨i=11:=by simpa using hi
         clear hi;rcases hi2 with rfl|rfl
         ·refine Qs 5 (some 76) (iv c) m2 rfl (by kernel_rfl) ?rwx8 rfl ?_
          case rwx8=>go_simp
          refine⟨fun _=>hS0,?_⟩;refine QW 11 (some 82) (iv d) m2 rfl (by kernel_rfl) (by kernel_rfl) ?rvx9 rfl (fun _=>hS0) ?_
          case rvx9=>go_simp
          refine Zn 12 (some 83) ?vx10 hS0 ?runx10 ?restx10
          case runx10=>intro w hS;obtain⟨s0,s1,s2,s3⟩:=hS;go_simp;rfl
          have hyw:y≤m2.heap.size:=by have:=HC2.o.1.size;have:=HY.o;omega
          have HAL:=Zh (show Below m2.heap.size m2 (m2.alloc (.cells #[iv c,iv d] CT)) from Zb);have HC3:=Zh (show Below y wk (m2.alloc (.cells #[iv c,iv d] CT))∧OwnI y (m2.alloc (.cells #[iv c,iv d] CT)) (.slice ga G4 gc) (G2++(if b4=true then ((s.uses.take (k+1)).map UF).flatten else []))∧Qya y (m2.alloc (.cells #[iv c,iv d] CT)) (.slice pa PR.length pc) PR from⟨HC2.o.1.trans (HAL.o.mono hyw),HC2.o.2.1.below HAL.o,HC2.o.2.2.below HAL.o⟩);have HNW:=Zh (show Qg (m2.alloc (.cells #[iv c,iv d] CT)) CT 2 (.slice (some ⟨m2.heap.size,0,none⟩) 1 1) [iv c,iv d] from Qrg m2);clear hS0;have hS0:=HSS.o _ HC3.o.1;refine QW 13 (some 84) (.slice (some ⟨m2.heap.size,0,none⟩) 1 1) (m2.alloc (.cells #[iv c,iv d] CT)) rfl (by kernel_rfl) (by kernel_rfl) ?rvx11 rfl (fun _=>hS0) ?_
          case rvx11=>go_simp
          refine QRe 14 (some 85) rfl (by kernel_rfl) (by kernel_rfl) rfl (.tmp 71) (.tmp 84) 53 rfl y CT _ 2 16 Tryz.underlying53 Qbf rfl (by decide) (.slice pa PR.length pc) PR.length (QHa PR) HC3.o.2.2 (by kernel_rfl) _ 1 [iv c,iv d] (by kernel_rfl) HNW.o rfl rfl (by unfold maxLen;omega) (by omega) (by simp;omega) ?_;intro g cp w9 ho hg;have HB9:=Zh (HC3.o.1.trans (Below.of_grown hg HC3.o.2.2 (by simp;omega)):Below y wk w9);have HG9:=Zh (show OwnI y w9 (.slice ga G4 gc) (G2++(if b4=true then ((s.uses.take (k+1)).map UF).flatten else [])) from QWb HC3.o.2.1 HC3.o.2.2 hg (by decide));have HP9:=Zh (show Qya y w9 (.slice g (PR.length+1) cp) (if true=true then (s.uses.take (k+1)).map fun u=>((UF u).headD 0,D.headD 0) else []) by
           rw [HPS2.o];unfold Qya;rw [QYf,List.length_append];exact ho)
          clear hS0 ho hg;have hS0:=HSS.o _ HB9.o;refine⟨fun _=>hS0,?_⟩;refine Zn 15 (some 11) ?vx12 hS0 ?runx12 ?restx12
          case runx12=>intro w hS;obtain⟨s0,s1,s2,s3⟩:=hS;go_simp;rfl
          refine Qu (by kernel_rfl) ?_ _;generalize hA:Act.put _ _ _=A0;simp only [Qba,Qaa,Zu,Zv,Zw] at hA;subst hA;clear c0 d0 hS0;go_wp2;go_roundw
          case rel=>exact⟨k+1,by omega,by go_num,HB9.o,HG9,HP9⟩
          case measure=>simp [intOf];omega
         ·refine Qs 11 (some 82) (iv d) m2 rfl (by kernel_rfl) ?rwx13 rfl ?_
          case rwx13=>go_simp
          refine⟨fun _=>hS0,?_⟩;refine QW 5 (some 76) (iv c) m2 rfl (by kernel_rfl) (by kernel_rfl) ?rvx14 rfl (fun _=>hS0) ?_
          case rvx14=>go_simp
          refine Zn 12 (some 83) ?vx15 hS0 ?runx15 ?restx15
          case runx15=>intro w hS;obtain⟨s0,s1,s2,s3⟩:=hS;go_simp;rfl
          have hyw:y≤m2.heap.size:=by have:=HC2.o.1.size;have:=HY.o;omega
          have HAL:=Zh (show Below m2.heap.size m2 (m2.alloc (.cells #[iv c,iv d] CT)) from Zb);have HC3:=Zh (show Below y wk (m2.alloc (.cells #[iv c,iv d] CT))∧OwnI y (m2.alloc (.cells #[iv c,iv d] CT)) (.slice ga G4 gc) (G2++(if b4=true then ((s.uses.take (k+1)).map UF).flatten else []))∧Qya y (m2.alloc (.cells #[iv c,iv d] CT)) (.slice pa PR.length pc) PR from⟨HC2.o.1.trans (HAL.o.mono hyw),HC2.o.2.1.below HAL.o,HC2.o.2.2.below HAL.o⟩);have HNW:=Zh (show Qg (m2.alloc (.cells #[iv c,iv d] CT)) CT 2 (.slice (some ⟨m2.heap.size,0,none⟩) 1 1) [iv c,iv d] from Qrg m2);clear hS0;have hS0:=HSS.o _ HC3.o.1;refine QW 13 (some 84) (.slice (some ⟨m2.heap.size,0,none⟩) 1 1) (m2.alloc (.cells #[iv c,iv d] CT)) rfl (by kernel_rfl) (by kernel_rfl) ?rvx16 rfl (fun _=>hS0) ?_
          case rvx16=>go_simp
          refine QRe 14 (some 85) rfl (by kernel_rfl) (by kernel_rfl) rfl (.tmp 71) (.tmp 84) 53 rfl y CT _ 2 16 Tryz.underlying53 Qbf rfl (by decide) (.slice pa PR.length pc) PR.length (QHa PR) HC3.o.2.2 (by kernel_rfl) _ 1 [iv c,iv d] (by kernel_rfl) HNW.o rfl rfl (by unfold maxLen;omega) (by omega) (by simp;omega) ?_;intro g cp w9 ho hg;have HB9:=Zh (HC3.o.1.trans (Below.of_grown hg HC3.o.2.2 (by simp;omega)):Below y wk w9);have HG9:=Zh (show OwnI y w9 (.slice ga G4 gc) (G2++(if b4=true then ((s.uses.take (k+1)).map UF).flatten else [])) from QWb HC3.o.2.1 HC3.o.2.2 hg (by decide));have HP9:=Zh (show Qya y w9 (.slice g (PR.length+1) cp) (if true=true then (s.uses.take (k+1)).map fun u=>((UF u).headD 0,D.headD 0) else []) by
           rw [HPS2.o];unfold Qya;rw [QYf,List.length_append];exact ho)
          clear hS0 ho hg;have hS0:=HSS.o _ HB9.o;refine⟨fun _=>hS0,?_⟩;refine Zn 15 (some 11) ?vx17 hS0 ?runx17 ?restx17
          case runx17=>intro w hS;obtain⟨s0,s1,s2,s3⟩:=hS;go_simp;rfl
          refine Qu (by kernel_rfl) ?_ _;generalize hA:Act.put _ _ _=A0;simp only [Qba,Qaa,Zu,Zv,Zw] at hA;subst hA;clear c0 d0 hS0;go_wp2;go_roundw
          case rel=>exact⟨k+1,by omega,by go_num,HB9.o,HG9,HP9⟩
          case measure=>simp [intOf];omega
     ·obtain rfl:k=un:=by omega
      have HTK:=Zh (show s.uses.take k=s.uses from List.take_of_length_le (by rw [HUN.o];exact Nat.le_refl _));rw [HTK.o] at hGR hPR;have HGG:=Zh (show GR=Qgg (QN p) (QC p kind) kind i s by rw [HGL.o,←hGR]);have HPP:=Zh (show PR=QTe (QN p) (QC p kind) kind s by rw [HPL.o,←hPR]);clear hGR hPR;have hyr:y≤wr.heap.size:=by have:=HBr.o.size;have:=HY.o;omega
      have KS:=Zh (Qpq PR (.slice pa PR.length pc) wr (fun c hc=>by
       rw [HPP.o] at hc;unfold QTe at hc
       split at hc
       ·obtain⟨x,-,rfl⟩:=List.mem_map.1 hc;have h1:=Qws (l:=QGa (QC p kind) (idxI (QN p) x)) (fun x hx=>QHg hx);rw [HML.o] at h1;exact⟨h1.1,by have:=h1.2;simp only;omega⟩
       ·cases hc) (by omega) HPr.o)
      go_wp2_with fail;refine KS.o.mono ?_;rintro e w5 ⟨rfl,PS,ho5,hperm,hsort,hg5⟩;have hl5:PS.length≤4:=by rw [hperm.length_eq];exact hPRl
      have HB5:=Zh (HBr.o.trans (Below.of_grown hg5 HPr.o hyr):Below y wk w5);have HG5:=Zh (show OwnI y w5 (.slice ra GR.length rc) GR from QWb HGr.o HPr.o hg5 (by decide));have HPM:=Zh (And.intro hperm hsort);have KC:=Zh (Qfn PS _ w5 (by omega) ho5 (by omega));have HP5:=Zh ho5;have hy5:y≤w5.heap.size:=by have:=HB5.o.size;have:=HY.o;omega
      clear ho5 hperm hsort hg5 KS HGr HPr;go_wp2_with fail;refine KC.o.mono ?_;rintro e w6 ⟨cu,rfl,hcu,hg6⟩;have HB6:=Zh (HB5.o.trans (Below.of_grown hg6 HP5.o hy5):Below y wk w6);have HG6:=Zh (show OwnI y w6 (.slice ra GR.length rc) GR from QWb HG5.o HP5.o hg6 (by decide));obtain⟨cua,cuc,rfl,-⟩:=hcu.cell;obtain⟨cn,hcn⟩:=Ze ((Qxa PS).length);rw [hcn] at hcu ⊢;have HC6:=Zh hcu;have hy6:y≤w6.heap.size:=by have:=HB6.o.size;have:=HY.o;omega
      obtain⟨q,hq⟩:=Ze w6.heap.size;obtain⟨W7,hW7⟩:=Ze (w6.alloc (.cells #[iv 0,.slice none 0 0,iv 0,.slice none 0 0,.slice cua cn cuc] FNA));have A7:=Zh (show Below w6.heap.size w6 W7 by rw [←hW7];exact Zb);have HQ7:=Zh (show W7.heap[q]? = some (.cells #[iv 0,.slice none 0 0,iv 0,.slice none 0 0,.slice cua cn cuc] FNA (0,0)) by rw [←hW7,←hq];exact heap_alloc_new _ _);have HB7:=Zh (HB6.o.trans (A7.o.mono hy6):Below y wk W7);have HG7:=Zh (HG6.o.below A7.o);have HC7:=Zh (HC6.o.below A7.o);have HW7:=Zh hW7;have hyq:y≤q:=by omega
      have RAW:=Zh (QQr HH.o HN.o HS.o (sc:=PS) (by rw [←HPP.o];exact HPM.o.1) HPM.o.2);obtain⟨RG,hRG⟩:=Ze ((rawT (QN p) (QC p kind) kind i s).gen);obtain⟨RK,hRK⟩:=Ze ((rawT (QN p) (QC p kind) kind i s).kill);have HRGo:=Zh (show Ok m RG by rw [←hRG,←HML.o];exact QIb _ (by rw [HML.o];exact hm));have HRKo:=Zh (show Ok m RK by rw [←hRK,←HML.o];exact QIb _ (by rw [HML.o];exact hm));rw [hRG,hRK] at RAW;clear hW7 hcu hg6 KC hcn hRG hRK HG6 HC6 HP5;go_upto_region 21 with(fail)
      try rw [hq]
      rw [show w6.alloc (.cells #[iv 0,.slice none 0 0,iv 0,.slice none 0 0,.slice cua cn cuc] FNA)=W7 from HW7.o];have KG:=Zh (show Calls Tryz.prog 115 #[iv m,.slice ra GR.length rc] W7 (SetE (RG,0) W7) by
       have h1:=QXp m GR (.slice ra GR.length rc) W7 HG7.o.ints;have h2:=RAW.o.1;rw [HML.o,←HGG.o] at h2
       rwa [h2] at h1)
      clear hq;go_wp2_with fail;refine KG.o.mono ?_;rintro e w8 ⟨gu,rfl,hgu,b8⟩;obtain⟨gua,gun,guc,rfl⟩:=hgu.shape;simp only [setV,HRGo.o.width];have HGW8:=Zh hgu.words;have HQ8:=Zh (Qc HQ7.o b8 (Qb HQ7.o));have HB8:=Zh (HB7.o.trans (b8.mono (by have:=HB7.o.size;have:=HY.o;omega)));have HC8:=Zh (HC7.o.below b8);obtain⟨W9,hW9⟩:=Ze ((w8.setCell ⟨q,0,none⟩ (iv m)).setCell ⟨q,1,none⟩ (.slice gua gun guc));have hT8:tyAt w8 q=some FNA:=Qv HQ8.o (by omega);have hT8b:tyAt (w8.setCell ⟨q,0,none⟩ (iv m)) q=some FNA:=by rw [QS];exact hT8
      have HQ9:=Zh (show W9.heap[q]? = some (.cells #[iv m,.slice gua gun guc,iv 0,.slice none 0 0,.slice cua cn cuc] FNA (0,0)) by rw [←hW9];exact set5a HQ8.o _ _);have HB9:=Zh (show Below y wk W9 by rw [←hW9];exact(HB8.o.setCell (by show y≤q;omega) _).setCell (by show y≤q;omega) _);have HGW9:=Zh (show Qi W9 (.slice gua gun guc) RG.words by rw [←hW9];exact(HGW8.o.keep (Qf.setCell (U:=FNA) hT8 (by decide))).keep (Qf.setCell (U:=FNA) hT8b (by decide)));have HC9:=Zh (show QKc W9 (.slice cua cn cuc) (Qxa PS) by rw [←hW9];exact Qg.same (Qg.same HC8.o (Qf.setCell (U:=FNA) hT8 (by decide))) (Qf.setCell (U:=FNA) hT8b (by decide)));have HW9:=Zh hW9;clear hgu b8 KG hW9 hT8 hT8b;obtain⟨c0,c1,c2,c3,c4⟩:=QJ HQ8.o;have f0:=(Qa HQ8.o).2 0;have f1:=(Qa HQ8.o).2 1;go_upto_region 22 with(fail)
      rw [show(w8.setCell ⟨q,0,none⟩ (iv m)).setCell ⟨q,1,none⟩ (.slice gua gun guc)=W9 from HW9.o];clear c0 c1 c2 c3 c4 f0 f1 HQ8 HC8 HGW8 HQ7 HC7;have KK:=Zh (show Calls Tryz.prog 115 #[iv m,.slice ka kn kc] W9 (SetE (RK,0) W9) by
       have h1:=QXp m _ (.slice ka kn kc) W9 (Qg.same HK1.o (Qf.below (HY.o▸HB9.o)));have h2:=RAW.o.2.1;rw [HML.o,HKL.o] at h2
       rwa [h2] at h1)
      go_wp2_with fail;refine KK.o.mono ?_;rintro e w10 ⟨ku,rfl,hku,b10⟩;obtain⟨kua,kun,kuc,rfl⟩:=hku.shape;simp only [setV,HRKo.o.width];have HKW10:=Zh hku.words;have HQ10:=Zh (Qc HQ9.o b10 (Qb HQ9.o));have HB10:=Zh (HB9.o.trans (b10.mono (by have:=HB9.o.size;have:=HY.o;omega)));have HC10:=Zh (HC9.o.below b10);have HGW10:=Zh (HGW9.o.below b10);obtain⟨W11,hW11⟩:=Ze ((w10.setCell ⟨q,2,none⟩ (iv m)).setCell ⟨q,3,none⟩ (.slice kua kun kuc));have hT8:tyAt w10 q=some FNA:=Qv HQ10.o (by omega);have hT8b:tyAt (w10.setCell ⟨q,2,none⟩ (iv m)) q=some FNA:=by rw [QS];exact hT8
      have HQ11:=Zh (show W11.heap[q]? = some (.cells #[iv m,.slice gua gun guc,iv m,.slice kua kun kuc,.slice cua cn cuc] FNA (0,0)) by rw [←hW11];exact set5b HQ10.o _ _);have HB11:=Zh (show Below y wk W11 by rw [←hW11];exact(HB10.o.setCell (by show y≤q;omega) _).setCell (by show y≤q;omega) _);have HTA:=Zh (show Qja W11 (.slice gua gun guc) (.slice kua kun kuc) (.slice cua cn cuc) ⟨RG,RK,Qxa PS⟩ by
       rw [←hW11];exact⟨(HGW10.o.keep (Qf.setCell (U:=FNA) hT8 (by decide))).keep (Qf.setCell (U:=FNA) hT8b (by decide)),(HKW10.o.keep (Qf.setCell (U:=FNA) hT8 (by decide))).keep (Qf.setCell (U:=FNA) hT8b (by decide)),Qg.same (Qg.same HC10.o (Qf.setCell (U:=FNA) hT8 (by decide))) (Qf.setCell (U:=FNA) hT8b (by decide))⟩)
      have HW11:=Zh hW11;clear hku b10 KK hW11 hT8 hT8b;obtain⟨c0,c1,c2,c3,c4⟩:=QJ HQ10.o;have f2:=(Qa HQ10.o).2 2;have f3:=(Qa HQ10.o).2 3;go_upto_region 23 with(fail)
      rw [show(w10.setCell ⟨q,2,none⟩ (iv m)).setCell ⟨q,3,none⟩ (.slice kua kun kuc)=W11 from HW11.o];clear c0 c1 c2 c3 c4 f2 f3 HQ10 HC10 HGW10 HKW10 HQ9 HC9 HGW9;obtain⟨c0,c1,c2,c3,c4⟩:=QJ HQ11.o;have KN:=Zh (show Calls Tryz.prog 19 #[.agg #[iv m,.slice gua gun guc,iv m,.slice kua kun kuc,.slice cua cn cuc]] W11 (QCl (Qlb (rawT (QN p) (QC p kind) kind i s) m,0) W11) by
       have hbw:=HZW.o _ (HYW.o _ HB11.o);have h1:=Qqr (B:=B) ⟨RG,RK,Qxa PS⟩ (.slice gua gun guc) (.slice kua kun kuc) (.slice cua cn cuc) W11 HTA.o (TZ.o.below (hbw.mono hB)) (by have:=hbw.size;omega);have h2:=RAW.o.2.2;rw [HML.o] at h2;rw [h2] at h1;simp only [trV,HRGo.o.width,HRKo.o.width] at h1;exact h1)
      go_wp2_with fail;refine KN.o.mono ?_;rintro e w12 ⟨au,bu,du,rfl,ht,b12⟩;obtain⟨CR,hCR⟩:=Ze (Qlb (rawT (QN p) (QC p kind) kind i s) m);have HCR:=Zh hCR;rw [hCR] at ht ⊢;clear hCR;obtain⟨aa,ac,rfl,-,-,-,-⟩:=ht.gen.cell;obtain⟨ba,bc,rfl,-,-,-,-⟩:=ht.kill.cell;obtain⟨da,dc,rfl,-,-,-,-⟩:=ht.cops.cell;simp only [trV];obtain⟨an,han⟩:=Ze CR.gen.words.length;obtain⟨bn,hbn⟩:=Ze CR.kill.words.length;obtain⟨dn,hdn⟩:=Ze CR.cops.length;rw [han,hbn,hdn] at ht ⊢;obtain⟨aw,haw⟩:=Ze CR.gen.width;obtain⟨bw,hbw⟩:=Ze CR.kill.width;rw [haw,hbw];have HAW:=Zh haw;have HBW:=Zh hbw;have HT12:=Zh ht;have HB12:=Zh (HB11.o.trans (b12.mono (by have:=HB11.o.size;have:=HY.o;omega)));obtain⟨r,hr⟩:=Ze w12.heap.size;obtain⟨W13,hW13⟩:=Ze (w12.alloc (.cells #[iv aw,.slice aa an ac,iv bw,.slice ba bn bc,.slice da dn dc] FNA));have A13:=Zh (show Below w12.heap.size w12 W13 by rw [←hW13];exact Zb);have HQ13:=Zh (show W13.heap[r]? = some (.cells #[iv aw,.slice aa an ac,iv bw,.slice ba bn bc,.slice da dn dc] FNA (0,0)) by rw [←hW13,←hr];exact heap_alloc_new _ _);have HB13:=Zh (HB12.o.trans (A13.o.mono (by have:=HB12.o.size;have:=HY.o;omega)):Below y wk W13);have HT13:=Zh (HT12.o.below A13.o);have HW13:=Zh hW13;have hrz:z+1+1+1<r:=by have:=HB12.o.size;have:=HY.o;omega
      clear ht b12 KN hW13 han hbn hdn haw hbw c0 c1 c2 c3 c4 HT12;go_upto_region 24 with(fail)
      try rw [hr]
      rw [show w12.alloc (.cells #[iv aw,.slice aa an ac,iv bw,.slice ba bn bc,.slice da dn dc] FNA)=W13 from HW13.o];have HRB3:=Zh (HCEL.o W13 (HYW.o _ HB13.o)).2.2;obtain⟨r0,r1,r2,r3,r4⟩:=QJ HQ13.o;obtain⟨c0,c1,c2,c3,c4⟩:=QJ HRB3.o;have f0:=(Qa HRB3.o).2 0;have f1:=(Qa HRB3.o).2 1;have f2:=(Qa HRB3.o).2 2;have f3:=(Qa HRB3.o).2 3;have f4:=(Qa HRB3.o).2 4;have E5:=Zh (set5 HRB3.o (iv aw) (.slice aa an ac) (iv bw) (.slice ba bn bc) (.slice da dn dc));have HSM:=Zh (fun (T:TypeId) (hne:T≠FNA)=>Quc (T:=T) (Qv HRB3.o (by omega)) hne (iv aw) (.slice aa an ac) (iv bw) (.slice ba bn bc) (.slice da dn dc));have HT14:=Zh (HT13.o.keep (HSM.o _ (by decide)) (HSM.o _ (by decide)));have HB14:=Zh (show Below z w (((((W13.setCell ⟨z+1+1+1,0,none⟩ (iv aw)).setCell ⟨z+1+1+1,1,none⟩ (.slice aa an ac)).setCell ⟨z+1+1+1,2,none⟩ (iv bw)).setCell ⟨z+1+1+1,3,none⟩ (.slice ba bn bc)).setCell ⟨z+1+1+1,4,none⟩ (.slice da dn dc)) from by
       have h0:Below z w W13:=HZ.o▸HZW.o _ (HYW.o _ HB13.o);exact((((h0.setCell (by show z≤z+1+1+1;omega) _).setCell (by show z≤z+1+1+1;omega) _).setCell (by show z≤z+1+1+1;omega) _).setCell (by show z≤z+1+1+1;omega) _).setCell (by show z≤z+1+1+1;omega) _)
      clear hr;go_wp2;obtain⟨g0,g1,g2,g3,g4⟩:=QJ E5.o;refine bodyPost_ret (v:=.agg #[iv aw,.slice aa an ac,iv bw,.slice ba bn bc,.slice da dn dc]) (by simp [results,Tryz.results48,go_sem,g0,g1,g2,g3,g4]) rfl ?_;rw [HCR.o];exact⟨.slice aa an ac,.slice ba bn bc,.slice da dn dc,by rw [show trV CR (.slice aa an ac) (.slice ba bn bc) (.slice da dn dc)=.agg #[iv CR.gen.width,.slice aa an ac,iv CR.kill.width,.slice ba bn bc,.slice da dn dc] from rfl,HAW.o,HBW.o],HT14.o,by rw [HZ.o];exact HB14.o⟩
end
end Go.Proofs.YtijekimobahgpaaGreatDoor
