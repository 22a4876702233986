/- A part of the proof. -/
import Derived.Test.YtijekimobahgpaaGreatDoorVa15
set_option linter.unusedVariables false
set_option linter.unusedSimpArgs false
set_option linter.unusedSectionVars false
set_option maxRecDepth 100000
set_option maxHeartbeats 16000000
namespace Go.Proofs.YtijekimobahgpaaGreatDoor
section
open Go.RowKit
variable [Base]
theorem Qko (f:Nat→Nat→Nat)(hf:FunQ 152 f)(s t:QSet)(u1 u2:Value)(w:World)(h1:Qi w u1 s.words)(h2:Qi w u2 t.words):
  Calls Tryz.prog 86 #[setV s u1,setV t u2,.func (.func 152) #[] #[]] w (SetE (QIa f s t) w):=by
 have hud:∀b:Bool,(undef=Value.bool b)=False:=fun b=>by simp[undef]
 obtain⟨a1,c1,rfl,hm1,hc1,hcm1,hk1⟩:=h1.cell;obtain⟨a2,c2,rfl,hm2,hc2,hcm2,hk2⟩:=h2.cell;obtain⟨n1,hn1⟩:=Ze s.words.length;obtain⟨n2,hn2⟩:=Ze t.words.length;have R1:=Zh h1;have R2:=Zh h2;rw[hn1] at hm1 hc1 R1 ⊢;rw[hn2] at hm2 hc2 R2 ⊢;have N1:=Zh hn1;have N2:=Zh hn2;have K1:=Zh hk1;have K2:=Zh hk2;have OK1:=Zh h1.2;have OK2:=Zh h2.2;have HF:=Zh hf;obtain⟨W,hW⟩:=Ze (((w.alloc (.cells #[.int .i64 s.width,.slice a1 n1 c1] 52)).alloc (.cells #[.int .i64 t.width,.slice a2 n2 c2] 52)).alloc (.cells #[.int .i64 0,.slice none 0 0] 52));have B0:Below w.heap.size w W:=by rw[←hW];exact((Zb).alloc ZS _).alloc (by simp;omega) _
 have L1:W.heap[w.heap.size]? = some (.cells #[.int .i64 s.width,.slice a1 n1 c1] 52 (0,0)):=by rw[←hW];exact Qz _ (Qz _ (heap_alloc_new _ _))
 have L2:W.heap[w.heap.size+1]? = some (.cells #[.int .i64 t.width,.slice a2 n2 c2] 52 (0,0)):=by rw[←hW];exact Qz _ (Qda _ _)
 have L3:W.heap[w.heap.size+1+1]? = some (.cells #[.int .i64 0,.slice none 0 0] 52 (0,0)):=by rw[←hW];have k:=heap_alloc_new ((w.alloc (.cells #[.int .i64 s.width,.slice a1 n1 c1] 52)).alloc (.cells #[.int .i64 t.width,.slice a2 n2 c2] 52)) (.cells #[.int .i64 0,.slice none 0 0] 52);simp only[World.size_alloc] at k;exact k
 have HW:=Zh hW;have BB:=Zh B0;have H1:=Zh L1;have H2:=Zh L2;have H3:=Zh L3;have x0:=(Qa L1).1 0;have x1:=(Qa L1).1 1;have y0:=(Qa L2).1 0;have y1:=(Qa L2).1 1;have z0:=(Qa L3).1 0;have z1:=(Qa L3).1 1;have f0:=(Qa L3).2 0;have f1:=(Qa L3).2 1;simp only[Zx,Zy,Zz] at x0 x1 y0 y1 z0 z1;unfold maxLen at hm1 hm2;clear hW B0 L1 L2 L3 h1 h2 hn1 hn2 hk1 hk2 hf;rcases Bool.eq_false_or_eq_true (setB s) with hv1|hv1
 rotate_left
 ·rw[show QIa f s t=(Qrd,1) from by unfold QIa;rw[if_pos (Or.inl hv1)]];have HV1:=Zh hv1;clear hv1;go_enter Tryz.func86,Tryz.ntmps86;go_wp2_with fail;rw[show((w.alloc (.cells #[.int .i64 s.width,.slice a1 _ c1] 52)).alloc (.cells #[.int .i64 t.width,.slice a2 _ c2] 52)).alloc (.cells #[.int .i64 0,.slice none 0 0] 52)=W from HW.o];refine(QT HV1.o _ _ (R1.o.below BB.o)).mono ?_;rintro e v1 ⟨rfl,b1⟩;have B1:=Zh (BB.o.trans (b1.mono BB.o.size));have M11:=Zh (Qc H1.o b1 (Qb H1.o));have M12:=Zh (Qc H2.o b1 (Qb H2.o));have M13:=Zh (Qc H3.o b1 (Qb H3.o));clear b1;clear x0 x1 y0 y1 z0 z1 f0 f1;have x0:=(Qa M11.o).1 0;have x1:=(Qa M11.o).1 1;have y0:=(Qa M12.o).1 0;have y1:=(Qa M12.o).1 1;have z0:=(Qa M13.o).1 0;have z1:=(Qa M13.o).1 1;have f0:=(Qa M13.o).2 0;have f1:=(Qa M13.o).2 1;simp only[Zx,Zy,Zz] at x0 x1 y0 y1 z0 z1;go_wp2;refine bodyPost_ret (v:=.tuple #[QPd,.int .i64 1]) (by simp[results,Tryz.results86,go_sem,z0,z1]) rfl (QJd.set ⟨rfl,(B1.o.setCell (p:=⟨w.heap.size+1+1,0,none⟩) (by show w.heap.size≤w.heap.size+1+1;omega) _).setCell (p:=⟨w.heap.size+1+1,1,none⟩) (by show w.heap.size≤w.heap.size+1+1;omega) _⟩)
 have HV1:=Zh hv1;rcases Bool.eq_false_or_eq_true (setB t) with hv2|hv2
 rotate_left
 ·rw[show QIa f s t=(Qrd,1) from by unfold QIa;rw[if_pos (Or.inr hv2)]];have HV2:=Zh hv2;clear hv1 hv2;go_enter Tryz.func86,Tryz.ntmps86;go_wp2_with fail;rw[show((w.alloc (.cells #[.int .i64 s.width,.slice a1 _ c1] 52)).alloc (.cells #[.int .i64 t.width,.slice a2 _ c2] 52)).alloc (.cells #[.int .i64 0,.slice none 0 0] 52)=W from HW.o];refine(QT HV1.o _ _ (R1.o.below BB.o)).mono ?_;rintro e v1 ⟨rfl,b1⟩;have B1:=Zh (BB.o.trans (b1.mono BB.o.size));have M11:=Zh (Qc H1.o b1 (Qb H1.o));have M12:=Zh (Qc H2.o b1 (Qb H2.o));have M13:=Zh (Qc H3.o b1 (Qb H3.o));clear b1;clear x0 x1 y0 y1 z0 z1 f0 f1;have x0:=(Qa M11.o).1 0;have x1:=(Qa M11.o).1 1;have y0:=(Qa M12.o).1 0;have y1:=(Qa M12.o).1 1;have z0:=(Qa M13.o).1 0;have z1:=(Qa M13.o).1 1;have f0:=(Qa M13.o).2 0;have f1:=(Qa M13.o).2 1;simp only[Zx,Zy,Zz] at x0 x1 y0 y1 z0 z1;go_wp2_with fail;refine(QT HV2.o _ _ (R2.o.below B1.o)).mono ?_;rintro e v2 ⟨rfl,b2⟩;have B2:=Zh (B1.o.trans (b2.mono B1.o.size));have M21:=Zh (Qc M11.o b2 (Qb M11.o));have M22:=Zh (Qc M12.o b2 (Qb M12.o));have M23:=Zh (Qc M13.o b2 (Qb M13.o));clear b2;clear x0 x1 y0 y1 z0 z1 f0 f1;have x0:=(Qa M21.o).1 0;have x1:=(Qa M21.o).1 1;have y0:=(Qa M22.o).1 0;have y1:=(Qa M22.o).1 1;have z0:=(Qa M23.o).1 0;have z1:=(Qa M23.o).1 1;have f0:=(Qa M23.o).2 0;have f1:=(Qa M23.o).2 1;simp only[Zx,Zy,Zz] at x0 x1 y0 y1 z0 z1;go_wp2;refine bodyPost_ret (v:=.tuple #[QPd,.int .i64 1]) (by simp[results,Tryz.results86,go_sem,z0,z1]) rfl (QJd.set ⟨rfl,(B2.o.setCell (p:=⟨w.heap.size+1+1,0,none⟩) (by show w.heap.size≤w.heap.size+1+1;omega) _).setCell (p:=⟨w.heap.size+1+1,1,none⟩) (by show w.heap.size≤w.heap.size+1+1;omega) _⟩)
 have HV2:=Zh hv2;by_cases hd:s.width=t.width;rotate_left
 ·rw[show QIa f s t=(Qrd,2) from by unfold QIa;rw[if_neg (by rw[hv1,hv2];simp),if_pos hd]];have hdb:(s.width != t.width)=true:=by simpa using hd
  clear hv1 hv2;go_enter Tryz.func86,Tryz.ntmps86;go_wp2_with fail;rw[show((w.alloc (.cells #[.int .i64 s.width,.slice a1 _ c1] 52)).alloc (.cells #[.int .i64 t.width,.slice a2 _ c2] 52)).alloc (.cells #[.int .i64 0,.slice none 0 0] 52)=W from HW.o];refine(QT HV1.o _ _ (R1.o.below BB.o)).mono ?_;rintro e v1 ⟨rfl,b1⟩;have B1:=Zh (BB.o.trans (b1.mono BB.o.size));have M11:=Zh (Qc H1.o b1 (Qb H1.o));have M12:=Zh (Qc H2.o b1 (Qb H2.o));have M13:=Zh (Qc H3.o b1 (Qb H3.o));clear b1;clear x0 x1 y0 y1 z0 z1 f0 f1;have x0:=(Qa M11.o).1 0;have x1:=(Qa M11.o).1 1;have y0:=(Qa M12.o).1 0;have y1:=(Qa M12.o).1 1;have z0:=(Qa M13.o).1 0;have z1:=(Qa M13.o).1 1;have f0:=(Qa M13.o).2 0;have f1:=(Qa M13.o).2 1;simp only[Zx,Zy,Zz] at x0 x1 y0 y1 z0 z1;go_wp2_with fail;refine(QT HV2.o _ _ (R2.o.below B1.o)).mono ?_;rintro e v2 ⟨rfl,b2⟩;have B2:=Zh (B1.o.trans (b2.mono B1.o.size));have M21:=Zh (Qc M11.o b2 (Qb M11.o));have M22:=Zh (Qc M12.o b2 (Qb M12.o));have M23:=Zh (Qc M13.o b2 (Qb M13.o));clear b2;clear x0 x1 y0 y1 z0 z1 f0 f1;have x0:=(Qa M21.o).1 0;have x1:=(Qa M21.o).1 1;have y0:=(Qa M22.o).1 0;have y1:=(Qa M22.o).1 1;have z0:=(Qa M23.o).1 0;have z1:=(Qa M23.o).1 1;have f0:=(Qa M23.o).2 0;have f1:=(Qa M23.o).2 1;simp only[Zx,Zy,Zz] at x0 x1 y0 y1 z0 z1;go_wp2;refine bodyPost_ret (v:=.tuple #[QPd,.int .i64 2]) (by simp[results,Tryz.results86,go_sem,z0,z1]) rfl (QJd.set ⟨rfl,(B2.o.setCell (p:=⟨w.heap.size+1+1,0,none⟩) (by show w.heap.size≤w.heap.size+1+1;omega) _).setCell (p:=⟨w.heap.size+1+1,1,none⟩) (by show w.heap.size≤w.heap.size+1+1;omega) _⟩)
 rw[show QIa f s t=(zipS f s t,0) from by unfold QIa;rw[if_neg (by rw[hv1,hv2];simp),if_neg (by simpa using hd)]];have hdb:(s.width != t.width)=false:=by simpa using hd
 have F1:=Zh (QBa hv1 OK1.o);have F2:=Zh (QBa hv2 OK2.o);obtain⟨m,e1,e2,e3⟩:=Qka F1.o;obtain⟨m2,e4,e5,e6⟩:=Qka F2.o;have HD:=Zh hd;have hmm:m2=m:=by omega
 subst hmm;have HM:=Zh e1;have hnn:n1=Qj m2:=by have:=N1.o;omega
 have hnn2:n2=Qj m2:=by have:=N2.o;omega
 subst hnn hnn2;have hwn:Qj m2≤4:=by unfold Qj;omega
 have hmk:=fun w=>QTd (Qj m2) ZO (Qj m2:Nat) rfl w
 clear hv1 hv2 e1 e3 e4 e6 hd;go_enter Tryz.func86,Tryz.ntmps86;go_wp2_with fail;rw[show((w.alloc (.cells #[.int .i64 s.width,.slice a1 _ c1] 52)).alloc (.cells #[.int .i64 t.width,.slice a2 _ c2] 52)).alloc (.cells #[.int .i64 0,.slice none 0 0] 52)=W from HW.o];refine(QT HV1.o _ _ (R1.o.below BB.o)).mono ?_;rintro e v1 ⟨rfl,b1⟩;have B1:=Zh (BB.o.trans (b1.mono BB.o.size));have M11:=Zh (Qc H1.o b1 (Qb H1.o));have M12:=Zh (Qc H2.o b1 (Qb H2.o));have M13:=Zh (Qc H3.o b1 (Qb H3.o));clear b1;clear x0 x1 y0 y1 z0 z1 f0 f1;have x0:=(Qa M11.o).1 0;have x1:=(Qa M11.o).1 1;have y0:=(Qa M12.o).1 0;have y1:=(Qa M12.o).1 1;have z0:=(Qa M13.o).1 0;have z1:=(Qa M13.o).1 1;have f0:=(Qa M13.o).2 0;have f1:=(Qa M13.o).2 1;simp only[Zx,Zy,Zz] at x0 x1 y0 y1 z0 z1;go_wp2_with fail;refine(QT HV2.o _ _ (R2.o.below B1.o)).mono ?_;rintro e v2 ⟨rfl,b2⟩;have B2:=Zh (B1.o.trans (b2.mono B1.o.size));have M21:=Zh (Qc M11.o b2 (Qb M11.o));have M22:=Zh (Qc M12.o b2 (Qb M12.o));have M23:=Zh (Qc M13.o b2 (Qb M13.o));clear b2;clear x0 x1 y0 y1 z0 z1 f0 f1;have x0:=(Qa M21.o).1 0;have x1:=(Qa M21.o).1 1;have y0:=(Qa M22.o).1 0;have y1:=(Qa M22.o).1 1;have z0:=(Qa M23.o).1 0;have z1:=(Qa M23.o).1 1;have f0:=(Qa M23.o).2 0;have f1:=(Qa M23.o).2 1;simp only[Zx,Zy,Zz] at x0 x1 y0 y1 z0 z1;go_wp2_with fail;have hz0:w.heap.size+1+1<v2.heap.size:=Qb M23.o;have hz1:w.heap.size≠v2.heap.size:=by omega
 have hz2:w.heap.size<v2.heap.size:=by omega
 go_region
 ·have I0:=Zh (show XIn w v2 ((v2.alloc (.cells (zc (Qj m2)) 139)).alloc (.cells #[.int .i64 s.width,.slice (some ⟨v2.heap.size,0,none⟩) (Qj m2) (Qj m2)] 52)).drew (w.heap.size+1+1) (v2.heap.size+1) v2.heap.size m2 s.width (Qdc f s t 0) from⟨((B2.o.alloc ZO _).alloc (by simp;omega) _).drew,((Zb).alloc ZS _).drew,Qz _ (Qz _ M23.o),Qda _ _,by rw[Qjf N1.o];exact Qz _ (heap_alloc_new _ _),by omega,by omega,by omega,by omega,by omega,by omega,by omega⟩);obtain⟨V,hV⟩:=Ze (((v2.alloc (.cells (zc (Qj m2)) 139)).alloc (.cells #[.int .i64 s.width,.slice (some ⟨v2.heap.size,0,none⟩) (Qj m2) (Qj m2)] 52)).drew);rw[hV] at I0;have HV:=Zh hV;have hrc:w.heap.size+1+1≠(v2.heap.size+1):=by omega
  have h0c:w.heap.size≠(v2.heap.size+1):=by omega
  have h1c:w.heap.size+1≠(v2.heap.size+1):=by omega
  have h0g:w.heap.size≠v2.heap.size:=by omega
  have h1g:w.heap.size+1≠v2.heap.size:=by omega
  have hcg:(v2.heap.size+1)≠v2.heap.size:=by omega
  have hcur:=I0.o.cur;clear hV x0 x1 y0 y1 z0 z1 f0 f1;have x0:=(Qa hcur).1 0;have x1:=(Qa hcur).1 1;simp only[Zx,Zy,Zz] at x0 x1;clear hcur;go_wp2_with fail;rw[show((v2.alloc (.cells (zc (Qj m2)) 139)).alloc (.cells #[.int .i64 s.width,.slice (some ⟨v2.heap.size,0,none⟩) (Qj m2) (Qj m2)] 52)).drew=V from HV.o];go_loopw [37] (fun y wr=>∃i:Nat,i≤Qj m2∧y=.int .i64 i∧Hid (XIn w v2 wr (w.heap.size+1+1) (v2.heap.size+1) v2.heap.size m2 s.width (Qdc f s t i))) (fun y _=>Qj m2-(intOf y).toNat)
  case atStart=>exact⟨0,Nat.zero_le _,rfl,I0.o⟩
  case round=>
   clear I0 x0 x1;obtain⟨i,hi,rfl,I⟩:=hrel;have J0:=Zh (Qa I.o.cur);have x0:=J0.o.1 0;have x1:=J0.o.1 1;have J1:=Zh (Qa I.o.res);have z0:=J1.o.1 0;have z1:=J1.o.1 1;have f0:=J1.o.2 0;have f1:=J1.o.2 1;simp only[Zx,Zy,Zz] at x0 x1 z0 z1;by_cases hlt:i<Qj m2
   ·obtain⟨x,hx⟩:∃x,s.words[i]? = some x:=⟨_,List.getElem?_eq_getElem (show i<s.words.length by have:=N1.o;omega)⟩;obtain⟨y,hy⟩:∃y,t.words[i]? = some y:=⟨_,List.getElem?_eq_getElem (show i<t.words.length by have:=N2.o;omega)⟩;obtain⟨b1,o1,rfl,hb1,-,hc1⟩:=K1.o i x hx;obtain⟨b2,o2,rfl,hb2,-,hc2⟩:=K2.o i y hy;have g1:=(I.o.below.cell (p:=⟨b1,o1+i,none⟩) hb1).trans hc1;have g2:=(I.o.below.cell (p:=⟨b2,o2+i,none⟩) hb2).trans hc2;have hxl:=OK1.o x (List.mem_of_getElem? hx);have hyl:=OK2.o y (List.mem_of_getElem? hy);have p1:=(Qa (Qc M21.o I.o.keep (Qb M21.o))).1 1;have p2:=(Qa (Qc M22.o I.o.keep (Qb M22.o))).1 1;simp only[Zx,Zy,Zz] at p1 p2;have hgg:=I.o.own;have q0:=(Qa hgg).1 i;have q1:=(Qa hgg).2 i;obtain⟨z,hz⟩:∃z,(Qdc f s t i)[i]? = some z:=⟨_,List.getElem?_eq_getElem (by rw[QTc (N1.o.trans N2.o.symm) (by rw[N1.o];exact hi),N1.o];exact hlt)⟩;rw[List.getElem?_toArray,List.getElem?_map,hz] at q0;simp only[Option.map_some] at q0;have HS:=Zh (Qkf (f:=f) hx hy (N1.o.trans N2.o.symm));have i1:(0:Int)≤(i:Int):=by omega
    have i2:(i:Int)<(Qj m2:Nat):=by omega
    have hc0:b1≠v2.heap.size:=by omega
    have hc9:b2≠v2.heap.size:=by omega
    clear hx hy hz hgg hc1 hc2;go_wp2_with fail;have hfl:f x y<18446744073709551616:=(HF.o x y wr hxl hyl).1;have k0:=Ne.symm h0g;have k4:=Ne.symm hz1;have k1:=Ne.symm h1g;have k2:=Ne.symm hc0;have k3:=Ne.symm hc9;go_region_held3 (fun w'=>w'.cell? ⟨(v2.heap.size+1),1,none⟩=some (.slice (some ⟨v2.heap.size,0,none⟩) (Qj m2) (Qj m2))∧w'.cell? ⟨w.heap.size,1,none⟩=some (.slice (some ⟨b1,o1,none⟩) (Qj m2) c1)∧w'.cell? ⟨w.heap.size+1,1,none⟩=some (.slice (some ⟨b2,o2,none⟩) (Qj m2) c2)∧w'.cell? ⟨b1,o1+i,none⟩=some (uv x)∧w'.cell? ⟨b2,o2+i,none⟩=some (uv y)) (first|go_keep|exact⟨Qqa hcg x1,Qqa h0g p1,Qqa h1g p2,Qqa hc0 g1,Qqa hc9 g2⟩|exact⟨QM h0g p1,QM h1g p2,QM hc0 g1,QM hc9 g2⟩|exact⟨QM hcg x1,QM h0g p1,QM h1g p2,QM hc0 g1,QM hc9 g2⟩) ((go_at_call 152;refine((HF.o x y _ hxl hyl).2).mono ?_;rintro e w9 ⟨rfl,rfl⟩))
    all_goals
     go_wp2;go_roundw
     case rel=>exact⟨i+1,by omega,by go_num,by rw[HS.o];exact((I.o.put i (f x y)).drew 1)⟩
     case measure=>simp[intOf];omega
   ·obtain rfl:i=Qj m2:=by omega
    have HFI:=Zh (I.o.fin (.int .i64 s.width) (.slice (some ⟨v2.heap.size,0,none⟩) (Qj m2) (Qj m2)));have HZ:=Zh (show Qdc f s t (Qj m2)=(zipS f s t).words by rw[←N1.o];exact QKf (N1.o.trans N2.o.symm));have HZF:=Zh (Qee (fun a b ha hb=>(HF.o a b w ha hb).1) F1.o F2.o HD.o).1;go_wp2;refine bodyPost_ret (v:=.tuple #[setV (zipS f s t) (.slice (some ⟨v2.heap.size,0,none⟩) (Qj m2) (Qj m2)),.int .i64 0]) (by simp[results,Tryz.results86,go_sem,z0,z1,zipS]) rfl ⟨_,rfl,.inr ⟨v2.heap.size,?_,by have:=I.o.old.2.2.1;exact this,?_,HZF.o⟩,HFI.o.2⟩
    ·rw[←HZ.o,QTc (N1.o.trans N2.o.symm) (by rw[N1.o];exact Nat.le_refl _),N1.o]
    ·rw[←HZ.o];exact HFI.o.1
 ·have I0:=Zh (show XIn w v2 ((v2.alloc (.cells #[.int .i64 s.width,.slice (some ⟨v2.heap.size+1,0,none⟩) (Qj m2) (Qj m2)] 52)).alloc (.cells (zc (Qj m2)) 139)).drew (w.heap.size+1+1) v2.heap.size (v2.heap.size+1) m2 s.width (Qdc f s t 0) from⟨((B2.o.alloc ZO _).alloc (by simp;omega) _).drew,((Zb).alloc ZS _).drew,Qz _ (Qz _ M23.o),Qz _ (heap_alloc_new _ _),by rw[Qjf N1.o];exact Qda _ _,by omega,by omega,by omega,by omega,by omega,by omega,by omega⟩);obtain⟨V,hV⟩:=Ze (((v2.alloc (.cells #[.int .i64 s.width,.slice (some ⟨v2.heap.size+1,0,none⟩) (Qj m2) (Qj m2)] 52)).alloc (.cells (zc (Qj m2)) 139)).drew);rw[hV] at I0;have HV:=Zh hV;have hrc:w.heap.size+1+1≠v2.heap.size:=by omega
  have h0c:w.heap.size≠v2.heap.size:=by omega
  have h1c:w.heap.size+1≠v2.heap.size:=by omega
  have h0g:w.heap.size≠(v2.heap.size+1):=by omega
  have h1g:w.heap.size+1≠(v2.heap.size+1):=by omega
  have hcg:v2.heap.size≠(v2.heap.size+1):=by omega
  have hcur:=I0.o.cur;clear hV x0 x1 y0 y1 z0 z1 f0 f1;have x0:=(Qa hcur).1 0;have x1:=(Qa hcur).1 1;simp only[Zx,Zy,Zz] at x0 x1;clear hcur;go_wp2_with fail;rw[show((v2.alloc (.cells #[.int .i64 s.width,.slice (some ⟨v2.heap.size+1,0,none⟩) (Qj m2) (Qj m2)] 52)).alloc (.cells (zc (Qj m2)) 139)).drew=V from HV.o];go_loopw [37] (fun y wr=>∃i:Nat,i≤Qj m2∧y=.int .i64 i∧Hid (XIn w v2 wr (w.heap.size+1+1) v2.heap.size (v2.heap.size+1) m2 s.width (Qdc f s t i))) (fun y _=>Qj m2-(intOf y).toNat)
  case atStart=>exact⟨0,Nat.zero_le _,rfl,I0.o⟩
  case round=>
   clear I0 x0 x1;obtain⟨i,hi,rfl,I⟩:=hrel;have J0:=Zh (Qa I.o.cur);have x0:=J0.o.1 0;have x1:=J0.o.1 1;have J1:=Zh (Qa I.o.res);have z0:=J1.o.1 0;have z1:=J1.o.1 1;have f0:=J1.o.2 0;have f1:=J1.o.2 1;simp only[Zx,Zy,Zz] at x0 x1 z0 z1;by_cases hlt:i<Qj m2
   ·obtain⟨x,hx⟩:∃x,s.words[i]? = some x:=⟨_,List.getElem?_eq_getElem (show i<s.words.length by have:=N1.o;omega)⟩;obtain⟨y,hy⟩:∃y,t.words[i]? = some y:=⟨_,List.getElem?_eq_getElem (show i<t.words.length by have:=N2.o;omega)⟩;obtain⟨b1,o1,rfl,hb1,-,hc1⟩:=K1.o i x hx;obtain⟨b2,o2,rfl,hb2,-,hc2⟩:=K2.o i y hy;have g1:=(I.o.below.cell (p:=⟨b1,o1+i,none⟩) hb1).trans hc1;have g2:=(I.o.below.cell (p:=⟨b2,o2+i,none⟩) hb2).trans hc2;have hxl:=OK1.o x (List.mem_of_getElem? hx);have hyl:=OK2.o y (List.mem_of_getElem? hy);have p1:=(Qa (Qc M21.o I.o.keep (Qb M21.o))).1 1;have p2:=(Qa (Qc M22.o I.o.keep (Qb M22.o))).1 1;simp only[Zx,Zy,Zz] at p1 p2;have hgg:=I.o.own;have q0:=(Qa hgg).1 i;have q1:=(Qa hgg).2 i;obtain⟨z,hz⟩:∃z,(Qdc f s t i)[i]? = some z:=⟨_,List.getElem?_eq_getElem (by rw[QTc (N1.o.trans N2.o.symm) (by rw[N1.o];exact hi),N1.o];exact hlt)⟩;rw[List.getElem?_toArray,List.getElem?_map,hz] at q0;simp only[Option.map_some] at q0;have HS:=Zh (Qkf (f:=f) hx hy (N1.o.trans N2.o.symm));have i1:(0:Int)≤(i:Int):=by omega
    have i2:(i:Int)<(Qj m2:Nat):=by omega
    have hc0:b1≠(v2.heap.size+1):=by omega
    have hc9:b2≠(v2.heap.size+1):=by omega
    clear hx hy hz hgg hc1 hc2;go_wp2_with fail;have hfl:f x y<18446744073709551616:=(HF.o x y wr hxl hyl).1;have k0:=Ne.symm h0g;have k4:=Ne.symm hz1;have k1:=Ne.symm h1g;have k2:=Ne.symm hc0;have k3:=Ne.symm hc9;go_region_held3 (fun w'=>w'.cell? ⟨v2.heap.size,1,none⟩=some (.slice (some ⟨(v2.heap.size+1),0,none⟩) (Qj m2) (Qj m2))∧w'.cell? ⟨w.heap.size,1,none⟩=some (.slice (some ⟨b1,o1,none⟩) (Qj m2) c1)∧w'.cell? ⟨w.heap.size+1,1,none⟩=some (.slice (some ⟨b2,o2,none⟩) (Qj m2) c2)∧w'.cell? ⟨b1,o1+i,none⟩=some (uv x)∧w'.cell? ⟨b2,o2+i,none⟩=some (uv y)) (first|go_keep|exact⟨Qqa hcg x1,Qqa h0g p1,Qqa h1g p2,Qqa hc0 g1,Qqa hc9 g2⟩|exact⟨QM h0g p1,QM h1g p2,QM hc0 g1,QM hc9 g2⟩|exact⟨QM hcg x1,QM h0g p1,QM h1g p2,QM hc0 g1,QM hc9 g2⟩) ((go_at_call 152;refine((HF.o x y _ hxl hyl).2).mono ?_;rintro e w9 ⟨rfl,rfl⟩))
    all_goals
     go_wp2;go_roundw
     case rel=>exact⟨i+1,by omega,by go_num,by rw[HS.o];exact((I.o.put i (f x y)).drew 1)⟩
     case measure=>simp[intOf];omega
   ·obtain rfl:i=Qj m2:=by omega
    have HFI:=Zh (I.o.fin (.int .i64 s.width) (.slice (some ⟨(v2.heap.size+1),0,none⟩) (Qj m2) (Qj m2)));have HZ:=Zh (show Qdc f s t (Qj m2)=(zipS f s t).words by rw[←N1.o];exact QKf (N1.o.trans N2.o.symm));have HZF:=Zh (Qee (fun a b ha hb=>(HF.o a b w ha hb).1) F1.o F2.o HD.o).1;go_wp2;refine bodyPost_ret (v:=.tuple #[setV (zipS f s t) (.slice (some ⟨(v2.heap.size+1),0,none⟩) (Qj m2) (Qj m2)),.int .i64 0]) (by simp[results,Tryz.results86,go_sem,z0,z1,zipS]) rfl ⟨_,rfl,.inr ⟨(v2.heap.size+1),?_,by have:=I.o.old.2.2.1;exact this,?_,HZF.o⟩,HFI.o.2⟩
    ·rw[←HZ.o,QTc (N1.o.trans N2.o.symm) (by rw[N1.o];exact Nat.le_refl _),N1.o]
    ·rw[←HZ.o];exact HFI.o.1
end
section
open Go.RowKit
variable [Base]
theorem Qbi (s t:QSet)(u1 u2:Value)(w:World)(h1:Qi w u1 s.words)(h2:Qi w u2 t.words):
  Calls Tryz.prog 93 #[setV s u1,setV t u2] w (SetE (QIa (clr) s t) w):=by
 obtain⟨a1,n1,c1,rfl⟩:∃a n c,u1=.slice a n c:=by obtain⟨a,c,rfl,-⟩:=h1.cell;exact⟨_,_,_,rfl⟩
 obtain⟨a2,n2,c2,rfl⟩:∃a n c,u2=.slice a n c:=by obtain⟨a,c,rfl,-⟩:=h2.cell;exact⟨_,_,_,rfl⟩
 have R1:=Zh h1;have R2:=Zh h2;obtain⟨W,hW⟩:=Ze (((w.alloc (.cells #[.int .i64 s.width,.slice a1 n1 c1] 52)).alloc (.cells #[.int .i64 t.width,.slice a2 n2 c2] 52)).alloc (.cells #[.int .i64 0,.slice none 0 0] 52));have B0:Below w.heap.size w W:=by rw[←hW];exact((Zb).alloc ZS _).alloc (by simp;omega) _
 have L3:W.heap[w.heap.size+1+1]? = some (.cells #[.int .i64 0,.slice none 0 0] 52 (0,0)):=by rw[←hW];have k:=heap_alloc_new ((w.alloc (.cells #[.int .i64 s.width,.slice a1 n1 c1] 52)).alloc (.cells #[.int .i64 t.width,.slice a2 n2 c2] 52)) (.cells #[.int .i64 0,.slice none 0 0] 52);simp only[World.size_alloc] at k;exact k
 have HW:=Zh hW;have BB:=Zh B0;have H3:=Zh L3;clear hW B0 L3 h1 h2;go_enter Tryz.func93,Tryz.ntmps93;go_wp2_with fail;rw[show((w.alloc (.cells #[.int .i64 s.width,.slice a1 n1 c1] 52)).alloc (.cells #[.int .i64 t.width,.slice a2 n2 c2] 52)).alloc (.cells #[.int .i64 0,.slice none 0 0] 52)=W from HW.o];refine(Qko (clr) QKt s t _ _ _ (R1.o.below BB.o) (R2.o.below BB.o)).mono ?_;rintro e v ⟨u,rfl,hu,b1⟩;obtain⟨ua,un,uc,rfl⟩:=hu.shape;obtain⟨q,hq⟩:=Ze (QIa (clr) s t);rw[hq] at hu ⊢;have HU:=Zh hu;have L3:=Zh (Qc H3.o b1 (Qb H3.o));have B1:=Zh (BB.o.trans (b1.mono BB.o.size));have z0:=(Qa L3.o).1 0;have z1:=(Qa L3.o).1 1;have f0:=(Qa L3.o).2 0;have f1:=(Qa L3.o).2 1;simp only[Zx,Zy,Zz] at z0 z1;have hsz:=Qb L3.o;have HLT:=Zh (Qb H3.o);have HQ:=Zh hq;clear hu b1 hq;go_wp2;refine bodyPost_ret (v:=.tuple #[setV q.1 (.slice ua un uc),.int .i64 q.2]) (by simp[results,Tryz.results93,go_sem,z0,z1]) rfl ?_;rw[HQ.o];exact⟨_,rfl,((HU.o.setCell HLT.o).setCell HLT.o).mono BB.o.size,(B1.o.setCell (p:=⟨w.heap.size+1+1,0,none⟩) (by show w.heap.size≤w.heap.size+1+1;omega) _).setCell (p:=⟨w.heap.size+1+1,1,none⟩) (by show w.heap.size≤w.heap.size+1+1;omega) _⟩
end
section
variable [Base]
theorem Qwm {f:Nat→Nat→Nat}{g:Bool→Bool→Bool}(hfg:∀a b k,(f a b).testBit k=g (a.testBit k) (b.testBit k))(hlt:∀a b,a<18446744073709551616→b<18446744073709551616→f a b<18446744073709551616)(h0:g false false=false){m:Nat}{s t:QSet}(hs:Ok m s)(ht:Ok m t):∃r,QIa f s t=(r,0)∧Ok m r∧∀b:Nat,QE r.words b=g (QE s.words b) (QE t.words b):=by
 have hw:s.width=t.width:=hs.width.trans ht.width.symm;have hz:=Qee hlt hs.form ht.form hw;refine⟨zipS f s t,?_,⟨hz.1,Qzr hfg hlt h0 hs.ok ht.ok hs.words ht.words hw,hs.width⟩,fun b=>?_⟩
 ·unfold QIa;rw[if_neg (by rw[hs.ok,ht.ok];simp),if_neg (by simpa using hw)]
 ·rw[show(zipS f s t).words=List.zipWith f s.words t.words from rfl,QXk hfg hz.2 h0]
theorem QXo {m:Nat}{s t:QSet}(hs:Ok m s)(ht:Ok m t):∃r,QIa clr s t=(r,0)∧Ok m r∧∀b:Nat,QE r.words b=(QE s.words b&&!QE t.words b):=Qwm (g:=fun a b=>a&&!b) QAl (fun _ _ h _=>Qvl h) rfl hs ht
theorem QCj {m:Nat}{s:QSet}(h:Ok m s){k:Nat}(hk:k<m):hasZ s (k:Int)=QE s.words k:=by
 unfold hasZ;rw[h.ok,h.width];simp[hk]
end
section
open Go.RowKit
variable [Base]
def RowW (B:Nat)(w:World)(g cap:Nat)(l:List Nat):Prop:=w.ownsRow B 139 1 (.slice (some ⟨g,0,none⟩) l.length cap) l.length (l.map uv)
theorem RowW.own {B:Nat}{w:World}{g cap k:Nat}{l:List Nat}(h:RowW B w g cap l)(hk:l.length=k):w.ownsRow B 139 1 (.slice (some ⟨g,0,none⟩) k cap) k (l.map uv):=by subst hk;exact h
def PutR (B g cap:Nat)(s:QSet)(w:World)(e:Ending)(w':World):Prop:=e=.returned (.tuple #[])∧RowW B w' g cap s.words∧ButB g w w'
theorem QPs {B:Nat}(s:QSet)(b g cap:Nat)(w:World)(hf:QUb s)(hb:(b:Int)<s.width)(ho:RowW B w g cap s.words)(hbs:Base.b≤B):
  Calls Tryz.prog 118 #[setV s (.slice (some ⟨g,0,none⟩) s.words.length cap),.int .i64 b] w (PutR B g cap (putS s b) w):=by
 obtain⟨m,hm,hm2,hk⟩:=Qka hf;obtain⟨k,hk2⟩:=Ze s.words.length;have hbk:b / 64<k:=by rw[←hk2,hk];unfold Qj;omega
 have hk5:k≤4:=by rw[←hk2,hk];unfold Qj;omega
 obtain⟨x,hx⟩:∃x,s.words[b / 64]? = some x:=⟨_,List.getElem?_eq_getElem (show b / 64<s.words.length by omega)⟩;have hxl:x<18446744073709551616:=hf.2.2 x (List.mem_of_getElem? hx);obtain⟨g',hg',-,hlt,-,hgc,hgf⟩:=QWd ho ZO hbs;injection hg' with hg'
 injection hg' with hg'
 subst hg';have g0:=hgc (b / 64) (by rw[List.length_map];omega);have g1:=hgf (b / 64);rw[List.getElem?_map,hx] at g0;simp only[Option.map_some] at g0;have q1:0≤(b:Int) / 64:=by omega
 have q2:(b:Int) / 64<k:=by omega
 have q3:((b:Int) / 64).toNat=b / 64:=by omega
 have q4:0≤(b:Int) % 64:=by omega
 have q5:IntKind.u64.wrap (b:Int)=(b:Int):=by rw[IntKind.wrap_u64];omega
 have q6:((b:Int) % 64).toNat=b % 64:=by omega
 obtain⟨y,hy⟩:=Ze (x ||| 2 ^ (b % 64));have q7:bits .or .u64 (x:Int) (IntKind.u64.wrap (2 ^ (b % 64)))=(y:Int):=by
  have h1:IntKind.u64.wrap (2 ^ (b % 64))=((2 ^ (b % 64):Nat):Int):=by
   have:=Qjd b;rw[show((2:Int) ^ (b % 64))=((2 ^ (b % 64):Nat):Int) by simp,IntKind.wrap_u64];generalize 2 ^ (b % 64)=p at *;omega
  rw[h1,Qhl x _ hxl (Qjd b),hy]
 have HY:=Zh hy;have HX:=Zh hx;have HG:=Zh ho;have hne:w.heap.size≠g:=by omega
 rw[hk2];have HK2:=Zh hk2;clear hk2;clear hy hx ho hf hm hk hgc hgf;go_enter Tryz.func118,Tryz.ntmps118;go_wp2_with fail;have HP:=Zh (show(putS s b).words=s.words.set (b / 64) y by
  unfold putS;rw[List.getD_eq_getElem?_getD,HX.o];simp[←HY.o])
 go_end0;refine⟨rfl,?_,?_⟩
 ·have h:=Qvd (RowW.own HG.o HK2.o) (b / 64) (uv y);unfold RowW;rw[HP.o,List.map_set,List.length_set,HK2.o];exact h.alloc _
 ·exact((ButB.refl g w).setCell _ _).alloc _
def remS (s:QSet)(b:Nat):QSet:=⟨s.width,s.words.set (b / 64) (clr (s.words.getD (b / 64) 0) (2 ^ (b % 64)))⟩
theorem Qqh {s:QSet}(h:QUb s)(b:Nat):QUb (remS s b):=by
 obtain⟨h1,h2,h3⟩:=h;refine⟨h1,?_,fun x hx=>?_⟩
 ·unfold QId remS at *;simp only[List.length_set];exact h2
 ·rcases List.mem_or_eq_of_mem_set hx with hx|rfl
  ·exact h3 x hx
  ·refine Qvl ?_;rw[List.getD_eq_getElem?_getD];rcases Nat.lt_or_ge (b / 64) s.words.length with hl|hl
   ·rw[List.getElem?_eq_getElem hl];exact h3 _ (List.getElem_mem _)
   ·rw[List.getElem?_eq_none hl];decide
theorem QMt {l:List Nat}{k b:Nat}:QE (l.set (k / 64) (clr (l.getD (k / 64) 0) (2 ^ (k % 64)))) b=(QE l b&&!decide (b=k)):=by
 unfold QE;rw[List.getD_eq_getElem?_getD,List.getD_eq_getElem?_getD,List.getElem?_set];by_cases h:k / 64=b / 64
 ·rw[if_pos h];by_cases hl:k / 64<l.length
  ·rw[if_pos ZO];simp only[Option.getD_some];rw[QAl,Nat.testBit_two_pow,←h,List.getD_eq_getElem?_getD]
   congr 2
   rw[Bool.eq_iff_iff];simp only[decide_eq_true_eq];omega
  ·rw[if_neg hl,List.getD_eq_getElem?_getD,List.getElem?_eq_none ZO];simp
 ·rw[if_neg h];have:¬b=k:=by intro e;subst e;exact h rfl
  simp[this,List.getD_eq_getElem?_getD]
theorem Qwt (s:QSet)(hf:QUb s)(b:Nat)(hb:(b:Int)<s.width):putS (remS s b) b=putS s b:=by
 refine Qrp rfl (Qnd (Qqh hf b) b) (Qnd hf b) fun k=>?_
 rw[Qah (Qqh hf b) hb,Qah hf hb,show QE (remS s b).words k=_ from QMt]
 cases QE s.words k <;> cases hd:decide (k=b) <;> rfl
def chgS (s:QSet)(b:Int)(m:Bool):QSet×Int:=if setB s=true then (if 0≤b∧b<s.width then ((if m=true then putS s b.toNat else remS s b.toNat),0) else (Qrd,3)) else (Qrd,1)
def QAd (r:QSet×Int)(w:World)(e:Ending)(w':World):Prop:=∃u,e=.returned (.tuple #[setV r.1 u,.int .i64 r.2])∧Qi w' u r.1.words∧Below w.heap.size w w'
theorem QJd.words {n:Int}{w w':World}{e:Ending}(h:QJd n w e w'):QAd (Qrd,n) w e w':=⟨.slice none 0 0,h.1,Qi.nil,h.2⟩
structure ChIn (B r c g cap:Nat)(w wx:World)(d:Int)(ws:List Nat):Prop where
 below:Below w.heap.size w wx
 res:wx.heap[r]? = some (.cells #[.int .i64 0,.slice none 0 0] 52 (0,0))
 cur:wx.heap[c]? = some (.cells #[.int .i64 d,.slice (some ⟨g,0,none⟩) ws.length cap] 52 (0,0))
 own:RowW B wx g cap ws
 old:w.heap.size≤r∧w.heap.size≤c∧w.heap.size≤g∧r≠c∧r≠g∧c≠g
theorem ChIn.word {B r c g cap:Nat}{w wx:World}{d:Int}{ws:List Nat}(h:ChIn B r c g cap w wx d ws)(j y:Nat):ChIn B r c g cap w (wx.setCell ⟨g,j,none⟩ (uv y)) d (ws.set j y):=by
 obtain⟨o1,o2,o3,o4,o5,o6⟩:=h.old;refine⟨h.below.setCell (p:=⟨g,j,none⟩) o3 _,?_,?_,?_,h.old⟩
 ·rw[Below.heap_setCell _ _ _ _ (by exact o5)];exact h.res
 ·rw[Below.heap_setCell _ _ _ _ (by exact o6),List.length_set];exact h.cur
 ·unfold RowW;rw[List.length_set,List.map_set];exact Qvd h.own j _
theorem ChIn.but {B r c g cap:Nat}{w wx w':World}{d:Int}{ws ws':List Nat}(h:ChIn B r c g cap w wx d ws)(hb:ButB g wx w')(ho:RowW B w' g cap ws')(hl:ws'.length=ws.length):ChIn B r c g cap w w' d ws':=by
 obtain⟨o1,o2,o3,o4,o5,o6⟩:=h.old;refine⟨⟨hb.os.trans h.below.os,hb.tape.trans h.below.tape,hb.output.trans h.below.output,Nat.le_trans h.below.size hb.size,fun k hk=>(hb.block k (by have:=h.below.size;omega) ZO).trans (h.below.block k hk)⟩,?_,?_,ho,h.old⟩
 ·rw[hb.block r (Qb h.res) o5];exact h.res
 ·rw[hb.block c (Qb h.cur) o6,hl];exact h.cur
theorem ChIn.fin {B r c g cap:Nat}{w wx:World}{d:Int}{ws:List Nat}{x y:Value}(h:ChIn B r c g cap w wx d ws)(hok:QLa ws)(hbs:Base.b≤w.heap.size):Qi ((wx.setCell ⟨r,0,none⟩ x).setCell ⟨r,1,none⟩ y) (.slice (some ⟨g,0,none⟩) ws.length cap) ws∧Below w.heap.size w ((wx.setCell ⟨r,0,none⟩ x).setCell ⟨r,1,none⟩ y):=by
 obtain⟨o1,o2,o3,o4,o5,o6⟩:=h.old;have hty:=Qv h.res;exact⟨Qi.keep ⟨Qg.of_owns h.own,hok⟩ (Qf.trans (Qf.setCell (U:=52) hty ZD) (Qf.setCell (U:=52) ((QS r).trans hty) ZD)),
  (h.below.setCell (p:=⟨r,0,none⟩) o1 _).setCell (p:=⟨r,1,none⟩) o1 _⟩
theorem ChIn.mkA {r g cap:Nat}{w w3 v:World}{d:Int}{ws:List Nat}(h3:Below w.heap.size w w3)(hb:Below w3.heap.size w3 v)(hr:w3.heap[r]? = some (.cells #[.int .i64 0,.slice none 0 0] 52 (0,0)))(hw:w.heap.size≤r)(own:RowW w3.heap.size v g cap ws)(hg:w3.heap.size≤g∧g<v.heap.size):
  ChIn w3.heap.size r v.heap.size g cap w (v.alloc (.cells #[.int .i64 d,.slice (some ⟨g,0,none⟩) ws.length cap] 52)) d ws:=by
 have hlt:=Qb hr;have hs:=hb.size;have hs3:=h3.size;exact⟨(h3.trans (hb.mono hs3)).alloc ZO _,Qz _ (Qc hr hb hlt),heap_alloc_new _ _,Qnu own (Zb),hw,by omega,by omega,by omega,by omega,by omega⟩
theorem ChIn.mkB {r g cap:Nat}{w w3 v:World}{d:Int}{ws:List Nat}(h3:Below w.heap.size w w3)(hb:Below (w3.heap.size+1) (w3.alloc (.cells #[.int .i64 0,.slice none 0 0] 52)) v)(hr:w3.heap[r]? = some (.cells #[.int .i64 0,.slice none 0 0] 52 (0,0)))(hw:w.heap.size≤r)(own:RowW (w3.heap.size+1) v g cap ws)(hg:w3.heap.size+1≤g)(hbs:Base.b≤w.heap.size):
  ChIn w3.heap.size r w3.heap.size g cap w ((v.setCell ⟨w3.heap.size,0,none⟩ (.int .i64 d)).setCell ⟨w3.heap.size,1,none⟩ (.slice (some ⟨g,0,none⟩) ws.length cap)) d ws:=by
 have hlt:=Qb hr;have hs:=hb.size;simp only[World.size_alloc] at hs;have hs3:=h3.size;have hz:=Qc (heap_alloc_new w3 (.cells #[.int .i64 0,.slice none 0 0] 52)) hb ZO;have hr2:=Qc (Qz (.cells #[.int .i64 0,.slice none 0 0] 52) hr) hb ZO;have hty:=Qv hz;refine⟨(((h3.alloc hs3 _).trans (hb.mono ZO)).setCell (p:=⟨w3.heap.size,0,none⟩) hs3 _).setCell (p:=⟨w3.heap.size,1,none⟩) hs3 _,?_,?_,Qza (Qza (Qao own ZO) hty ZD) ((QS _).trans hty) ZD,hw,by omega,by omega,by omega,by omega,by omega⟩
 ·rw[Below.heap_setCell _ _ _ _ (by show r≠w3.heap.size;omega),Below.heap_setCell _ _ _ _ (by show r≠w3.heap.size;omega)];exact hr2
 ·simp[World.setCell,Array.getElem?_modify,hz]
theorem Qrn {B:Nat}{w v:World}(b:Below B w.drew v):Below B w v:=⟨b.os,b.tape,b.output,b.size,b.block⟩
theorem Qqn {n:Nat}{w v:World}{o:Obj}(b:Below (w.alloc o).drew.heap.size (w.alloc o).drew v)(h:w.heap.size+1=n):Below n (w.alloc o) v:=by
 rw[show(w.alloc o).drew.heap.size=n from(World.size_alloc w o).trans h] at b;exact⟨b.os,b.tape,b.output,b.size,b.block⟩
theorem QMi {w:World}{u:Value}{l:List Nat}(h:Qi w u l):Qi w.drew u l:=h.keep fun _ _ _ _ _ e=>e
def QHu (l:List Nat)(w:World)(e:Ending)(w':World):Prop:=∃g cap,e=.returned (.slice (some ⟨g,0,none⟩) l.length cap)∧RowW w.heap.size w' g cap l∧(w.heap.size≤g∧g<w'.heap.size)∧Below w.heap.size w w'
theorem QTp (l:List Nat)(u:Value)(w:World)(h:Qi w u l)(hn:l.length≤1000000)(h0:0<l.length)(hbs:Base.b≤w.heap.size):Calls Tryz.prog 91 #[u] w (QHu l w):=
 (QXh u l.length (l.map uv) w h.1 (by rw[List.length_map];omega) (QDh l) hn).mono fun e w' ⟨a,c,h1,h2,h3⟩=>by
  obtain⟨g,rfl,hg,hg2,-⟩:=QWd h2 h0 hbs
  exact⟨g,c,h1,h2,⟨hg,hg2⟩,h3⟩
theorem QQs {B:Nat}(s:QSet)(b g cap:Nat)(w:World)(hf:QUb s)(hb:(b:Int)<s.width)(ho:RowW B w g cap (remS s b).words)(hbs:Base.b≤B):
  Calls Tryz.prog 118 #[.agg #[.int .i64 s.width,.slice (some ⟨g,0,none⟩) s.words.length cap],.int .i64 b] w (PutR B g cap (putS s b) w):=by
 have h:=QPs (remS s b) b g cap w (Qqh hf b) hb ho hbs;rw[Qwt s hf b hb,show(remS s b).words.length=s.words.length by simp[remS]] at h;exact h
theorem Qjn (s:QSet)(b:Int)(m:Bool)(u:Value)(w:World)(h:Qi w u s.words)(hbs:Base.b≤w.heap.size):Calls Tryz.prog 181 #[setV s u,.int .i64 b,.bool m] w (QAd (chgS s b m) w):=by
 obtain⟨a,c,rfl,hm,hc,hcm,hk⟩:=h.cell;obtain⟨n,hn⟩:=Ze s.words.length;obtain⟨W,hW⟩:=Ze ((w.alloc (.cells #[.int .i64 s.width,.slice a n c] 52)).alloc (.cells #[.int .i64 0,.slice none 0 0] 52));have B0:Below w.heap.size w W:=by rw[←hW];exact(Zb).alloc ZS _
 have HB0:W.heap[w.heap.size]? = some (.cells #[.int .i64 s.width,.slice a n c] 52 (0,0)):=by rw[←hW];exact Qz _ (heap_alloc_new _ _)
 have HB1:W.heap[w.heap.size+1]? = some (.cells #[.int .i64 0,.slice none 0 0] 52 (0,0)):=by rw[←hW];exact Qda _ _
 have x0:=(Qa HB0).1 0;have x1:=(Qa HB0).1 1;simp only[Zx,Zy,Zz] at x0 x1;rw[hn] at hm hc ⊢;have H0:=Zh HB0;have H1:=Zh HB1;have HW:=Zh hW;have BB:=Zh B0;have HN:=Zh hn;have HR:=Zh (show Qi W (.slice a n c) s.words by rw[←hn] at *;exact h.below B0);have HOK:=Zh h.2;unfold maxLen at hm;clear hW HB0 HB1 B0 hk hn;rcases Bool.eq_false_or_eq_true (setB s) with hv|hv
 rotate_left
 ·have HV:=Zh hv;rw[show chgS s b m=(Qrd,1) by unfold chgS;rw[hv];rfl];clear hv;go_enter Tryz.func181,Tryz.ntmps181;go_wp2_with fail;rw[show(w.alloc (.cells #[.int .i64 s.width,.slice a n c] 52)).alloc (.cells #[.int .i64 0,.slice none 0 0] 52)=W from HW.o];refine(QT HV.o _ _ HR.o).mono ?_;rintro e w1 ⟨rfl,b1⟩;have B1:=Zh (BB.o.trans (b1.mono BB.o.size));have L1:=Zh (Qc H1.o b1 (Qb H1.o));have y0:=(Qa L1.o).1 0;have y1:=(Qa L1.o).1 1;have f0:=(Qa L1.o).2 0;have f1:=(Qa L1.o).2 1;simp only[Zx,Zy,Zz] at y0 y1;clear x0 x1 b1;go_wp2;exact bodyPost_ret (v:=.tuple #[QPd,.int .i64 1]) (by simp[results,Tryz.results181,go_sem,y0,y1]) rfl (QJd.words ⟨rfl,(B1.o.setCell (p:=⟨w.heap.size+1,0,none⟩) (by show w.heap.size≤w.heap.size+1;omega) _).setCell (p:=⟨w.heap.size+1,1,none⟩) (by show w.heap.size≤w.heap.size+1;omega) _⟩)
 have HV:=Zh hv;by_cases hin:0≤b∧b<s.width;rotate_left
 ·rw[show chgS s b m=(Qrd,3) by unfold chgS;rw[hv,if_pos rfl,if_neg hin]];have HI:=Zh (show(decide (0≤b)&&decide (b<s.width))=false by rw[Bool.eq_false_iff];simpa using hin);clear hv h hin;go_enter Tryz.func181,Tryz.ntmps181;go_wp2_with fail;rw[show(w.alloc (.cells #[.int .i64 s.width,.slice a n c] 52)).alloc (.cells #[.int .i64 0,.slice none 0 0] 52)=W from HW.o];refine(QT HV.o _ _ HR.o).mono ?_;rintro e w1 ⟨rfl,b1⟩;have B1:=Zh (BB.o.trans (b1.mono BB.o.size));have L1:=Zh (Qc H1.o b1 (Qb H1.o));have L0:=Zh (Qc H0.o b1 (Qb H0.o));clear x0 x1 b1;have x0:=(Qa L0.o).1 0;have x1:=(Qa L0.o).1 1;simp only[Zx,Zy,Zz] at x0 x1;go_wp2_with fail;refine(QUe (s:=s) (b:=false) HI.o a n c _).mono ?_;rintro e w2 ⟨rfl,b2⟩;have B2:=Zh (B1.o.trans (b2.mono B1.o.size));have L2:=Zh (Qc L1.o b2 (Qb L1.o));have y0:=(Qa L2.o).1 0;have y1:=(Qa L2.o).1 1;have f0:=(Qa L2.o).2 0;have f1:=(Qa L2.o).2 1;simp only[Zx,Zy,Zz] at y0 y1;clear x0 x1 b2;go_wp2;exact bodyPost_ret (v:=.tuple #[QPd,.int .i64 3]) (by simp[results,Tryz.results181,go_sem,y0,y1]) rfl (QJd.words ⟨rfl,(B2.o.setCell (p:=⟨w.heap.size+1,0,none⟩) (by show w.heap.size≤w.heap.size+1;omega) _).setCell (p:=⟨w.heap.size+1,1,none⟩) (by show w.heap.size≤w.heap.size+1;omega) _⟩)
 have hf:=QBa hv h.2;obtain⟨h1,h2⟩:=hin;obtain⟨k,rfl⟩:=Int.eq_ofNat_of_zero_le h1;obtain⟨m2,e1,e2,e3⟩:=Qka hf;have hkn:k / 64<n:=by have:=HN.o;unfold Qj at e3;omega
 have hn5:n≤4:=by have:=HN.o;unfold Qj at e3;omega
 have HI:=Zh (show(decide (0≤(k:Int))&&decide ((k:Int)<s.width))=true by simp;omega);obtain⟨x,hx⟩:∃x,s.words[k / 64]? = some x:=⟨_,List.getElem?_eq_getElem (by have:=HN.o;omega)⟩;have hxl:x<18446744073709551616:=hf.2.2 x (List.mem_of_getElem? hx);have HF:=Zh hf;have HX:=Zh hx;have HK:=Zh h2;have HC:Hid (chgS s k m=((if m=true then putS s k else remS s k),0)):=by
  refine Zh ?_;unfold chgS;rw[hv,if_pos rfl,if_pos ⟨h1,h2⟩];rfl
 rw[HC.o];obtain⟨R,hR⟩:=Ze ((if m=true then putS s k else remS s k));rw[hR];have HRR:=Zh hR;clear hR;clear hv h hf e1 e2 e3 hx h1 h2 HC;go_enter Tryz.func181,Tryz.ntmps181;go_wp2_with fail;rw[show(w.alloc (.cells #[.int .i64 s.width,.slice a n c] 52)).alloc (.cells #[.int .i64 0,.slice none 0 0] 52)=W from HW.o];refine(QT HV.o _ _ HR.o).mono ?_;rintro e w1 ⟨rfl,b1⟩;have B1:=Zh (BB.o.trans (b1.mono BB.o.size));have L1:=Zh (Qc H1.o b1 (Qb H1.o));have L0:=Zh (Qc H0.o b1 (Qb H0.o));have R1:=Zh (HR.o.below b1);clear x0 x1 b1;have x0:=(Qa L0.o).1 0;have x1:=(Qa L0.o).1 1;simp only[Zx,Zy,Zz] at x0 x1;go_wp2_with fail;refine(QUe (s:=s) (b:=true) HI.o a n c _).mono ?_;rintro e w2 ⟨rfl,b2⟩;have B2:=Zh (B1.o.trans (b2.mono B1.o.size));have M1:=Zh (Qc L1.o b2 (Qb L1.o));have M0:=Zh (Qc L0.o b2 (Qb L0.o));have R2:=Zh (R1.o.below b2);clear x0 x1 b2;have x0:=(Qa M0.o).1 0;have x1:=(Qa M0.o).1 1;simp only[Zx,Zy,Zz] at x0 x1;have hz0:w.heap.size<w2.heap.size:=Qb M0.o;have hbs2:Base.b≤w2.heap.size:=by omega
 have hbs3:Base.b≤w2.drew.heap.size:=hbs2;have hbs4:Base.b≤(w2.alloc (.cells #[.int .i64 0,.slice none 0 0] 52)).drew.heap.size:=by rw[show(w2.alloc (.cells #[.int .i64 0,.slice none 0 0] 52)).drew.heap.size=w2.heap.size+1 from World.size_alloc _ _];omega
 go_upto_region 5 with fail
 go_cut [8] from 20 to 25 (fun y8 wx=>∃o g cap wy,wy=wx∧y8=.pointer (some ⟨o,0,none⟩)∧Hid (ChIn w2.heap.size (w.heap.size+1) o g cap w wy s.width s.words))
 case first=>
  go_region_held3 (fun w'=>w'.cell? ⟨w.heap.size,0,none⟩=some (.int .i64 s.width)∧w'.cell? ⟨w.heap.size,1,none⟩=some (.slice a n c)) (first|go_keep|exact⟨Qqa ZO (Qqa ZO p0),Qqa ZO (Qqa ZO p1)⟩) ((first|(go_at_call 91;((with_reducible refine(QTp s.words (.slice a n c) w2.drew (QMi R2.o) (by have:=HN.o;omega) (by have:=HN.o;omega) hbs3).mono ?_));go_must (rintro e v ⟨g,cap,rfl,own,hg,b⟩;have OW:=Zh own;have HG:=Zh hg;have BV:=Zh (Qrn b);have p0:=(BV.o.cell (p:=⟨w.heap.size,0,none⟩) hz0).trans x0;have p1:=(BV.o.cell (p:=⟨w.heap.size,1,none⟩) hz0).trans x1;clear own hg b))|(go_at_call 91;((with_reducible refine(QTp s.words (.slice a n c) (w2.alloc (.cells #[.int .i64 0,.slice none 0 0] 52)).drew (QMi (R2.o.keep Qf.alloc)) (by have:=HN.o;omega) (by have:=HN.o;omega) hbs4).mono ?_));go_must (rintro e v ⟨g,cap,rfl,own,hg,b⟩;have OW:=Zh own;have HG:=Zh hg;have BV:=Zh (Qqn b rfl);have p:=Qc (Qz (.cells #[.int .i64 0,.slice none 0 0] 52) M0.o) BV.o ZO;have p0:=(Qa p).1 0;have p1:=(Qa p).1 1;have z:=Qc (heap_alloc_new w2 (.cells #[.int .i64 0,.slice none 0 0] 52)) BV.o ZO;have z0:=(Qa z).1 0;have z1:=(Qa z).1 1;have f0:=(Qa z).2 0;have f1:=(Qa z).2 1;simp only[Zx,Zy,Zz] at p0 p1 z0 z1;clear own hg b p z))))
  ·go_wp2_with fail;go_meet
   case rel=>exact⟨_,_,_,_,rfl,rfl,ChIn.mkA (w3:=w2) B2.o BV.o M1.o (Nat.le_succ _) OW.o HG.o⟩
  ·go_wp2_with fail;go_meet
   case rel=>exact⟨_,_,_,_,rfl,rfl,ChIn.mkB B2.o BV.o M1.o (Nat.le_succ _) (by have h:=OW.o;rw[show(w2.alloc (.cells #[.int .i64 0,.slice none 0 0] 52)).drew.heap.size=w2.heap.size+1 from World.size_alloc _ _] at h;exact h) (by have h:=HG.o.1;rw[show(w2.alloc (.cells #[.int .i64 0,.slice none 0 0] 52)).drew.heap.size=w2.heap.size+1 from World.size_alloc _ _] at h;exact h) hbs⟩
 case rest=>
  clear x0 x1;obtain⟨o,g,cap,wy,rfl,rfl,J0⟩:=hcut;obtain⟨g',hg',-,-,-,hgc,hgf⟩:=QWd J0.o.own (by have:=HN.o;omega) hbs2;injection hg' with hg'
  injection hg' with hg'
  subst hg';have g0:=hgc (k / 64) (by rw[List.length_map];have:=HN.o;omega);have g1:=hgf (k / 64);rw[List.getElem?_map,HX.o] at g0;simp only[Option.map_some] at g0;have c0:=(Qa J0.o.cur).1 0;have c1:=(Qa J0.o.cur).1 1;simp only[Zx,Zy,Zz] at c0 c1;have q1:0≤(k:Int) / 64:=by omega
  have q2:(k:Int) / 64<n:=by omega
  have q3:((k:Int) / 64).toNat=k / 64:=by omega
  have q4:0≤(k:Int) % 64:=by omega
  have hk256:k<256:=by obtain⟨m3,a1,a2,a3⟩:=Qka HF.o;have:=HK.o;omega
  have q5:IntKind.u64.wrap (k:Int)=(k:Int):=by rw[IntKind.wrap_u64];omega
  have q6:((k:Int) % 64).toNat=k % 64:=by omega
  obtain⟨y,hy⟩:=Ze (clr x (2 ^ (k % 64)));have q7:bits .andNot .u64 (x:Int) (IntKind.u64.wrap (2 ^ (k % 64)))=(y:Int):=by
   have h1:IntKind.u64.wrap (2 ^ (k % 64))=((2 ^ (k % 64):Nat):Int):=by
    have:=Qjd k;rw[show((2:Int) ^ (k % 64))=((2 ^ (k % 64):Nat):Int) by simp,IntKind.wrap_u64];generalize 2 ^ (k % 64)=p at *;omega
   rw[h1,QRj x _ hxl (Qjd k),hy]
  have HREM:=Zh (show(remS s k).words=s.words.set (k / 64) y by
   unfold remS;rw[List.getD_eq_getElem?_getD,HX.o];simp[←hy])
  have J1:=Zh (show ChIn w2.heap.size (w.heap.size+1) o g cap w (wy.setCell ⟨g,k / 64,none⟩ (uv y)) s.width (remS s k).words from by rw[HREM.o];exact J0.o.word (k / 64) y);rw[HN.o] at c1;have hlr:(remS s k).words.length=n:=by rw[HREM.o,List.length_set];exact HN.o
  obtain⟨hor,hog,hrg⟩:w.heap.size+1≠o∧o≠g∧w.heap.size+1≠g:=by have:=J0.o.old;omega
  have r0:=(Qa J0.o.res).1 0;have r1:=(Qa J0.o.res).1 1;have r2:=(Qa J0.o.res).2 0;have r3:=(Qa J0.o.res).2 1;simp only[Zx,Zy,Zz] at r0 r1;clear hy hgc hgf J0
  cases m
  ·have hR:=HRR.o;simp only[Bool.false_eq_true,if_false] at hR;subst hR;have FIN:=Zh (fun x' y'=>J1.o.fin (x:=x') (y:=y') (Qqh HF.o k).2.2 hbs);rw[hlr] at FIN;go_wp2;exact bodyPost_ret (v:=.tuple #[setV (remS s k) (.slice (some ⟨g,0,none⟩) n cap),.int .i64 0]) (by simp[results,Tryz.results181,go_sem,r0,r1,remS]) rfl ⟨_,rfl,(FIN.o _ _).1,(FIN.o _ _).2⟩
  ·have hR:=HRR.o;simp only[if_true] at hR;subst hR;go_wp2_with fail;rw[←HN.o];refine(QQs s k g cap _ HF.o HK.o J1.o.own hbs2).mono ?_;rintro e w5 ⟨rfl,ho,hb⟩;have J2:=Zh (J1.o.but hb ho (by rw[hlr];simp[putS,HN.o]));have hlp:(putS s k).words.length=n:=by simp[putS,HN.o]
   have FIN:=Zh (fun x' y'=>J2.o.fin (x:=x') (y:=y') (Qnd HF.o k).2.2 hbs);rw[hlp] at FIN;clear g0 g1 c0 c1 r0 r1 r2 r3 ho hb;have c0:=(Qa J2.o.cur).1 0;have c1:=(Qa J2.o.cur).1 1;have r0:=(Qa J2.o.res).1 0;have r1:=(Qa J2.o.res).1 1;have r2:=(Qa J2.o.res).2 0;have r3:=(Qa J2.o.res).2 1;simp only[Zx,Zy,Zz] at c0 c1 r0 r1;rw[hlp] at c1;rw[HN.o];go_wp2;exact bodyPost_ret (v:=.tuple #[setV (putS s k) (.slice (some ⟨g,0,none⟩) n cap),.int .i64 0]) (by simp[results,Tryz.results181,go_sem,r0,r1,putS]) rfl ⟨_,rfl,(FIN.o _ _).1,(FIN.o _ _).2⟩
theorem QPg (s:QSet)(b:Int)(u:Value)(w:World)(h:Qi w u s.words)(hbs:Base.b≤w.heap.size):Calls Tryz.prog 140 #[setV s u,.int .i64 b] w (QAd (chgS s b true) w):=by
 obtain⟨a1,n1,c1,rfl⟩:∃a n c,u=.slice a n c:=by obtain⟨a,c,rfl,-⟩:=h.cell;exact⟨_,_,_,rfl⟩
 have R1:=Zh h;obtain⟨W,hW⟩:=Ze ((w.alloc (.cells #[.int .i64 s.width,.slice a1 n1 c1] 52)).alloc (.cells #[.int .i64 0,.slice none 0 0] 52));have B0:Below w.heap.size w W:=by rw[←hW];exact(Zb).alloc ZS _
 have L3:W.heap[w.heap.size+1]? = some (.cells #[.int .i64 0,.slice none 0 0] 52 (0,0)):=by rw[←hW];exact Qda _ _
 have HW:=Zh hW;have BB:=Zh B0;have H3:=Zh L3;clear hW B0 L3 h;go_enter Tryz.func140,Tryz.ntmps140;go_wp2_with fail;rw[show(w.alloc (.cells #[.int .i64 s.width,.slice a1 n1 c1] 52)).alloc (.cells #[.int .i64 0,.slice none 0 0] 52)=W from HW.o];refine(Qjn s b true _ _ (R1.o.below BB.o) (Nat.le_trans hbs BB.o.size)).mono ?_;rintro e v ⟨u,rfl,hu,b1⟩;obtain⟨ua,un,uc,rfl⟩:=hu.shape;obtain⟨q,hq⟩:=Ze (chgS s b true);rw[hq] at hu ⊢;have HU:=Zh hu;have L3:=Zh (Qc H3.o b1 (Qb H3.o));have B1:=Zh (BB.o.trans (b1.mono BB.o.size));have z0:=(Qa L3.o).1 0;have z1:=(Qa L3.o).1 1;have f0:=(Qa L3.o).2 0;have f1:=(Qa L3.o).2 1;simp only[Zx,Zy,Zz] at z0 z1;have hsz:=Qb L3.o;have hty:tyAt v (w.heap.size+1)=some 52:=Qv L3.o;have HTY:=Zh hty;have HQ:=Zh hq;clear hu b1 hq hty;go_wp2;exact bodyPost_ret (v:=.tuple #[setV q.1 (.slice ua un uc),.int .i64 q.2]) (by simp[results,Tryz.results140,go_sem,z0,z1]) rfl (by rw[HQ.o];exact⟨_,rfl,HU.o.keep (Qf.trans (Qf.setCell (U:=52) HTY.o ZD) (Qf.setCell (U:=52) ((QS _).trans HTY.o) ZD)),(B1.o.setCell (p:=⟨w.heap.size+1,0,none⟩) (by show w.heap.size≤w.heap.size+1;omega) _).setCell (p:=⟨w.heap.size+1,1,none⟩) (by show w.heap.size≤w.heap.size+1;omega) _⟩)
end
end Go.Proofs.YtijekimobahgpaaGreatDoor
