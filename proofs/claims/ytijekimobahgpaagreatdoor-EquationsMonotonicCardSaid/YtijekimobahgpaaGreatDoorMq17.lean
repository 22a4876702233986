/- A part of the proof. -/
import Derived.Test.YtijekimobahgpaaGreatDoorMq16
set_option linter.unusedVariables false
set_option linter.unusedSimpArgs false
set_option linter.unusedSectionVars false
set_option maxRecDepth 100000
set_option maxHeartbeats 16000000
namespace Go.Proofs.YtijekimobahgpaaGreatDoor
section
open Go.RowKit
variable [Base]
theorem QDi {B bt:Nat} {w0 w1 w:World} (h:Below B w0 w1) (hb:But bt w1 w) (hB:B≤bt) (hs:B≤w1.heap.size):Below B w0 w:=h.trans (hb.toBelow hB hs)
theorem QJu {la lb:List QSet} {x y:QSet} (h:la.length=lb.length):List.zipWith orS (la++[x]) (lb++[y])=List.zipWith orS la lb++[orS x y]:=by
 rw [List.zipWith_append h];rfl
theorem Qdq {P:Program} {ops:Array Oper} {Q:Exit→Act→World→Prop} {K:Act→World→Prop} (i:Nat) (d:Option Tmp) {oi:Oper} {a:Act} {w:World} (hi:ops[i]? = some oi)
  (hwant:Region.wanted oi (yielded ops a.tmps)=true) (hd:oi.dst=d) (s x:Operand) (t:TypeId)
  (ho:oi.op=.call { callee:=.builtin .append,args:=#[s,x],argTypes:=#[t,t] })
  (base:Nat) (e:TypeId) (z:Value) (size bytes:Nat) (ht:P.underlying t=some (.slice e)) (hin:(P.info? e).map (fun i=>(i.zero,i.size,i.bytes))=some (some z,size,bytes))
  (hzs:z.cells.size=size) (hsz:0<size) (v:Value) (n:Nat) (xs:List Value) (hown:w.ownsRow base e size v n xs) (hs:a.eval s=v)
  (eb:Nat) (news:List Value) (hx:a.eval x=.slice (some ⟨eb,0,none⟩) 1 1) (hl:news.length=size) (hh:w.heap[eb]? = some (.cells news.toArray e (0,0))) (h1:news.all Value.oneCell'=true)
  (h63:n+1≤maxLen) (hbytes:(n+1)*bytes≤140737488355328) (hbase:base≤w.heap.size)
  (h:∀g cap w',w'.ownsRow base e size (.slice (some ⟨g,0,none⟩) (n+1) cap) (n+1) (xs++news)→w.grownBy w' v.ownBlock→(v.ownBlock=some g∨g=w.heap.size)→K (a.put d (.slice (some ⟨g,0,none⟩) (n+1) cap)) w'):wpOp P ops Q i K a w:=by
 subst hd;obtain⟨ii,hi',hz,hs1,hs2⟩:=info_parts hin;unfold wpOp;rw [hi];show if Region.wanted oi (yielded ops a.tmps) then _ else _
 rw [if_pos hwant];refine .inl (wp_append_lies _ s x t ho base e ii z size bytes ht hi' hz hs1 hs2 hzs hsz v n xs hs hown ⟨eb,0,none⟩ 1 1 news hx (by omega) (fun j u hj=>?_) (fun u hu=>List.all_eq_true.1 h1 u hu) (by omega) h63 hbytes hbase _ rfl ?_)
 ·have hc:=(Qa hh).1 j;rw [List.getElem?_toArray,hj] at hc;have e:(⟨eb,0,none⟩:Addr).add j=⟨eb,j,none⟩:=by
   by_cases hj0:j=0
   ·subst hj0;simp [Addr.add]
   ·simp [Addr.add,hj0]
  rw [e];exact hc
 ·intro g cap w' h2 h3 h4 _;exact h g cap w' h2 h3 h4
theorem QF {ops:Array Oper} {Q:Exit→Act→World→Prop} {K:Act→World→Prop} (i:Nat) (d:Option Tmp) {oi:Oper} {a:Act} {w:World} {s x:Operand} {z:Nat} {val:Value} {n:Nat} {xs:List Value} (hown:w.ownsRow (z+1) ST 2 val n xs)
  {eb:Nat} {c0 c1:Value} (hh:w.heap[eb]? = some (.cells #[c0,c1] ST (0,0))) (hbase:z+1≤w.heap.size)
  (h:∀g cap w',w'.ownsRow (z+1) ST 2 (.slice (some ⟨g,0,none⟩) (n+1) cap) (n+1) (xs++[c0,c1])→w.grownBy w' val.ownBlock→(val.ownBlock=some g∨g=w.heap.size)→K (a.put d (.slice (some ⟨g,0,none⟩) (n+1) cap)) w')
  (hi:ops[i]? = some oi:=by rfl) (hwant:Region.wanted oi (yielded ops a.tmps)=true:=by kernel_rfl) (hd:oi.dst=d:=by rfl) (ho:oi.op=.call { callee:=.builtin .append,args:=#[s,x],argTypes:=#[34,34] }:=by rfl)
  (hs:a.eval s=val:=by kernel_rfl) (hx:a.eval x=.slice (some ⟨eb,0,none⟩) 1 1:=by kernel_rfl) (h1:[c0,c1].all Value.oneCell'=true:=by rfl) (hn:n≤1000:=by omega):wpOp Tryz.prog ops Q i K a w:=
 Qdq i d hi hwant hd s x 34 ho (z+1) ST _ 2 32 Tryz.underlying34 Qwd rfl (by decide) val n xs hown hs eb [c0,c1] hx rfl hh h1 (by unfold maxLen;omega) (by omega) hbase h
section
variable {B bt z m:Nat} {w2 wr w:World} {dv tv bv va vb vu:Value} {la lb lu:List QSet} {G:List (Nat×Value×QSet)}
theorem Th3.opA {ops:Array Oper} {Q:Exit→Act→World→Prop} {K:Act→World→Prop} {a:Act} {s x':Operand} {oi:Oper} (h:Th3 B bt z m w2 w dv tv bv va vb vu la lb lu G) {x:Nat×Value×QSet} (hx:x∈G) (hw:x.2.2.width=(m:Int)) {n:Nat} (hl:la.length=n) (i:Nat) (d:Option Tmp)
  (k:∀g c w',Th3 B bt z m w2 w' dv tv bv (.slice (some ⟨g,0,none⟩) (n+1) c) vb vu (la++[x.2.2]) lb lu G→K (a.put d (.slice (some ⟨g,0,none⟩) (n+1) c)) w')
  (hi:ops[i]? = some oi:=by rfl) (hwant:Region.wanted oi (yielded ops a.tmps)=true:=by kernel_rfl) (hd:oi.dst=d:=by rfl) (ho:oi.op=.call { callee:=.builtin .append,args:=#[s,x'],argTypes:=#[34,34] }:=by rfl)
  (hs:a.eval s=va:=by kernel_rfl) (hxe:a.eval x'=.slice (some ⟨x.1,0,none⟩) 1 1:=by kernel_rfl) (h1:[iv m,x.2.1].all Value.oneCell'=true:=by rfl) (hn:n≤1000:=by omega):wpOp Tryz.prog ops Q i K a w:=by
 subst hl;obtain⟨xs,ho',hx'⟩:=h.oa;exact QF i d ho' (h.gd x hx).1 h.zs (fun g c w' hr hg h4=>k g c w' (h.pushA hx hw ho' hx' hr hg h4)) hi hwant hd ho hs hxe h1 hn
theorem Th3.opB {ops:Array Oper} {Q:Exit→Act→World→Prop} {K:Act→World→Prop} {a:Act} {s x':Operand} {oi:Oper} (h:Th3 B bt z m w2 w dv tv bv va vb vu la lb lu G) {x:Nat×Value×QSet} (hx:x∈G) (hw:x.2.2.width=(m:Int)) {n:Nat} (hl:lb.length=n) (i:Nat) (d:Option Tmp)
  (k:∀g c w',Th3 B bt z m w2 w' dv tv bv va (.slice (some ⟨g,0,none⟩) (n+1) c) vu la (lb++[x.2.2]) lu G→K (a.put d (.slice (some ⟨g,0,none⟩) (n+1) c)) w')
  (hi:ops[i]? = some oi:=by rfl) (hwant:Region.wanted oi (yielded ops a.tmps)=true:=by kernel_rfl) (hd:oi.dst=d:=by rfl) (ho:oi.op=.call { callee:=.builtin .append,args:=#[s,x'],argTypes:=#[34,34] }:=by rfl)
  (hs:a.eval s=vb:=by kernel_rfl) (hxe:a.eval x'=.slice (some ⟨x.1,0,none⟩) 1 1:=by kernel_rfl) (h1:[iv m,x.2.1].all Value.oneCell'=true:=by rfl) (hn:n≤1000:=by omega):wpOp Tryz.prog ops Q i K a w:=by
 subst hl;obtain⟨xs,ho',hx'⟩:=h.ob;exact QF i d ho' (h.gd x hx).1 h.zs (fun g c w' hr hg h4=>k g c w' (h.pushB hx hw ho' hx' hr hg h4)) hi hwant hd ho hs hxe h1 hn
theorem Th3.opU {ops:Array Oper} {Q:Exit→Act→World→Prop} {K:Act→World→Prop} {a:Act} {s x':Operand} {oi:Oper} (h:Th3 B bt z m w2 w dv tv bv va vb vu la lb lu G) {x:Nat×Value×QSet} (hx:x∈G) (hw:x.2.2.width=(m:Int)) {n:Nat} (hl:lu.length=n) (i:Nat) (d:Option Tmp)
  (k:∀g c w',Th3 B bt z m w2 w' dv tv bv va vb (.slice (some ⟨g,0,none⟩) (n+1) c) la lb (lu++[x.2.2]) G→K (a.put d (.slice (some ⟨g,0,none⟩) (n+1) c)) w')
  (hi:ops[i]? = some oi:=by rfl) (hwant:Region.wanted oi (yielded ops a.tmps)=true:=by kernel_rfl) (hd:oi.dst=d:=by rfl) (ho:oi.op=.call { callee:=.builtin .append,args:=#[s,x'],argTypes:=#[34,34] }:=by rfl)
  (hs:a.eval s=vu:=by kernel_rfl) (hxe:a.eval x'=.slice (some ⟨x.1,0,none⟩) 1 1:=by kernel_rfl) (h1:[iv m,x.2.1].all Value.oneCell'=true:=by rfl) (hn:n≤1000:=by omega):wpOp Tryz.prog ops Q i K a w:=by
 subst hl;obtain⟨xs,ho',hx'⟩:=h.ou;exact QF i d ho' (h.gd x hx).1 h.zs (fun g c w' hr hg h4=>k g c w' (h.pushU hx hw ho' hx' hr hg h4)) hi hwant hd ho hs hxe h1 hn
theorem Th3.al2 {e:Nat} {w':World} (h:Th3 B bt z m w2 w dv tv bv va vb vu la lb lu G) {x:Nat×Value×QSet} (hx:x∈G) (hX:w.alloc (.cells #[iv m,x.2.1] ST)=w') (he:w.heap.size=e):Th3 B bt z m w2 w' dv tv bv va vb vu la lb lu ((e,x.2.1,x.2.2)::G):=by
 subst hX he;exact h.alloc (h.gd x hx).2.1
theorem Th3.al (h:Th3 B bt z m w2 w dv tv bv va vb vu la lb lu G) (o:Obj):Th3 B bt z m w2 (w.alloc o) dv tv bv va vb vu la lb lu G:=h.next (h.tape.alloc _) ((But.refl _ _).alloc _)
theorem Th3.fin {x y:QSet} (h:Th3 B bt z m w2 w dv tv bv va vb vu (la++[x]) (lb++[y]) (List.zipWith orS la lb++[orS x y]) G) (hl:la.length=lb.length):Th3 B bt z m w2 w dv tv bv va vb vu (la++[x]) (lb++[y]) (List.zipWith orS (la++[x]) (lb++[y])) []:=by
 have h:=h.only (G':=[]) (by simp);rw [QJu hl];exact h
theorem Th3.cells9 (h:Th3 B bt z m w2 w dv tv bv va vb vu la lb lu G) {pa pb pu:Nat} {ux uy uu:Value} {x y u:QSet} (k:Nat) (e:G.drop k=[(pu,uu,u),(pa,ux,x),(pb,uy,y)]):
  ((((w.cell? ⟨pa,0,none⟩=some (iv m)∧w.cell? ⟨pa,1,none⟩=some ux)∧(w.cell? ⟨pb,0,none⟩=some (iv m)∧w.cell? ⟨pb,1,none⟩=some uy))∧w.cell? ⟨pu,0,none⟩=some (iv m))∧w.cell? ⟨pu,1,none⟩=some uu):=by
 have hm:∀t∈[(pu,uu,u),(pa,ux,x),(pb,uy,y)],t∈G:=fun t ht=>List.mem_of_mem_drop (by rw [e];exact ht)
 have h1:=Qq (h.gd _ (hm (pa,ux,x) (by simp))).1;have h2:=Qq (h.gd _ (hm (pb,uy,y) (by simp))).1;have h3:=Qq (h.gd _ (hm (pu,uu,u) (by simp))).1;exact⟨⟨⟨h1,h2⟩,h3.1⟩,h3.2⟩
theorem Th3.two (h0:Th3 B bt z m w2 wr dv tv bv va vb vu la lb lu []) (h:Th3 B bt z m w2 w dv tv bv va vb vu la lb lu []) (hb:But bt wr w) {pa pb:Nat} {ux uy:Value} {x y:QSet} (hpa:wr.heap.size≤pa) (hpb:wr.heap.size≤pb) (hne:pa≠pb)
  (ha:w.heap[pa]? = some (.cells #[iv 0,.slice none 0 0] ST (0,0))) (hbb:w.heap[pb]? = some (.cells #[iv 0,.slice none 0 0] ST (0,0))) (hx:Qi w ux x.words) (hy:Qi w uy y.words):
  Th3 B bt z m w2 ((((w.setCell ⟨pa,0,none⟩ (iv m)).setCell ⟨pa,1,none⟩ ux).setCell ⟨pb,0,none⟩ (iv m)).setCell ⟨pb,1,none⟩ uy) dv tv bv va vb vu la lb lu [(pa,ux,x),(pb,uy,y)]:=by
 have hge:=h.tape.ge;have hzb:=h.zb;have hold:=h.old;have hz0:=h0.zs;have ty:∀(v:World) (p o:Nat) (u:Value),tyAt v pa=some ST∧tyAt v pb=some ST→tyAt (v.setCell ⟨p,o,none⟩ u) pa=some ST∧tyAt (v.setCell ⟨p,o,none⟩ u) pb=some ST:=fun v p o u k=>⟨(QS pa).trans k.1,(QS pb).trans k.2⟩
 have k0:tyAt w pa=some ST∧tyAt w pb=some ST:=⟨Qv ha (by omega),Qv hbb (by omega)⟩;have k1:=ty w pa 0 (iv m) k0;have k2:=ty _ pa 1 ux k1;have k3:=ty _ pb 0 (iv m) k2;have hs:Qf 139 w ((((w.setCell ⟨pa,0,none⟩ (iv m)).setCell ⟨pa,1,none⟩ ux).setCell ⟨pb,0,none⟩ (iv m)).setCell ⟨pb,1,none⟩ uy):=
  (((Qf.setCell (U:=ST) k0.1 (by decide)).trans (Qf.setCell (U:=ST) k1.1 (by decide))).trans (Qf.setCell (U:=ST) k2.2 (by decide))).trans (Qf.setCell (U:=ST) k3.2 (by decide))
 have tt:QZ B ((((w.setCell ⟨pa,0,none⟩ (iv m)).setCell ⟨pa,1,none⟩ ux).setCell ⟨pb,0,none⟩ (iv m)).setCell ⟨pb,1,none⟩ uy) bt:=
  (((h.tape.setCell (by show pa≠bt;omega) (by show B≤pa;omega) _).setCell (by show pa≠bt;omega) (by show B≤pa;omega) _).setCell (by show pb≠bt;omega) (by show B≤pb;omega) _).setCell (by show pb≠bt;omega) (by show B≤pb;omega) _
 have bb:But bt wr ((((w.setCell ⟨pa,0,none⟩ (iv m)).setCell ⟨pa,1,none⟩ ux).setCell ⟨pb,0,none⟩ (iv m)).setCell ⟨pb,1,none⟩ uy):=
  (((hb.setCell ⟨pa,0,none⟩ (.inr hpa) _).setCell ⟨pa,1,none⟩ (.inr hpa) _).setCell ⟨pb,0,none⟩ (.inr hpb) _).setCell ⟨pb,1,none⟩ (.inr hpb) _
 have f:=h0.next tt bb;have e1:((((w.setCell ⟨pa,0,none⟩ (iv m)).setCell ⟨pa,1,none⟩ ux).setCell ⟨pb,0,none⟩ (iv m)).setCell ⟨pb,1,none⟩ uy).heap[pb]? = some (.cells #[iv m,uy] ST (0,0)):=by
  simp [World.setCell,Array.getElem?_modify,hbb,hne,Ne.symm hne]
 have e2:((((w.setCell ⟨pa,0,none⟩ (iv m)).setCell ⟨pa,1,none⟩ ux).setCell ⟨pb,0,none⟩ (iv m)).setCell ⟨pb,1,none⟩ uy).heap[pa]? = some (.cells #[iv m,ux] ST (0,0)):=by
  rw [Below.heap_setCell _ _ _ _ hne,Below.heap_setCell _ _ _ _ hne];simp [World.setCell,Array.getElem?_modify,ha]
 exact(f.add h0 hpb e1 (hy.keep hs)).add h0 hpa e2 (hx.keep hs)
end
theorem Qvi (w0:World) (a:Option Addr) (an ac:Nat) (hn:an≤maxLen)
  (h:∀j:Nat,j<an→∃b off z,a=some ⟨b,off,none⟩∧b<w0.heap.size∧w0.cell? ⟨b,off+j,none⟩=some (.int .i64 z)) (kw:KwIn w0.heap.size w0) (ef:Qmg w0.heap.size w0) (tz:TzIn w0.heap.size w0) (hbs:Base.b≤w0.heap.size):
  Calls Tryz.prog 7 #[.slice a an ac] w0 (Qia true w0):=by
 have H:=Zh h;have KW:=Zh kw;have EF:=Zh ef;have TZ:=Zh tz;have hud:∀b:Bool,(undef=Value.bool b)=False:=fun b=>by simp [undef]
 obtain⟨bt,hbt⟩:=Ze w0.heap.size;clear h kw ef tz;go_enter Tryz.func7,Tryz.ntmps7;go_wp2_with fail;refine(QDt rfl a an ac hn H.o).mono ?_;rintro e w1 ⟨rfl,ht1,hb1⟩;rw [hbt] at H KW EF TZ ht1 hb1 hbs ⊢;have T1:=Zh ht1;have B1:=Zh hb1;clear ht1 hb1;go_wp2_with fail;refine(QXm 5 (by omega) (by omega) _ T1.o).mono ?_;rintro e w2 ⟨s,n,m,dv,tv,bv,rfl,hok,hn16,hm4,hsa,ht2,hb2⟩;have OK:=Zh hok;have HSA:=Zh hsa;have T2:=Zh ht2;have B2:=Zh (QDi B1.o hb2 (Nat.le_refl _) (Nat.le_of_lt T1.o.lt));obtain⟨da,dc,rfl,-⟩:=hsa.deps.cell;obtain⟨ta,tc,rfl,-⟩:=hsa.trans.cell;obtain⟨ba,bc,rfl,-⟩:=hsa.bnds.cell;rw [hok.deps,hok.trans,hok.bnds] at HSA ⊢;rw [show sysV s (.slice da n dc) (.slice ta n tc) (.slice ba n bc)=.agg #[iv m,.slice da n dc,.slice ta n tc,.slice ba n bc] by show Value.agg #[iv s.width,_,_,_]=_;rw [hok.width]];obtain⟨z,hz⟩:=Ze w2.heap.size;obtain⟨V,hV⟩:=Ze (w2.alloc (.cells #[iv m,.slice da n dc,.slice ta n tc,.slice ba n bc] SYT));have HV:=Zh hV;have I0:=Zh (show Th3 bt bt z m w2 V (.slice da n dc) (.slice ta n tc) (.slice ba n bc) (.slice none 0 0) (.slice none 0 0) (.slice none 0 0) [] [] [] [] by
  rw [←hV,←hz];exact⟨ht2.alloc _,(But.refl _ _).alloc _,heap_alloc_new _ _,QG.nil,QG.nil,QG.nil,Qpd.nil,Qpd.nil,Qpd.nil,(fun x hx=>by cases hx),ht2.lt,rfl⟩)
 have hn1:=hok.n1;have hww:s.width=(m:Int):=hok.width;clear hok hsa ht2 hb2 hV T1 B1;go_upto_region 3 with(fail)
 rw [show w2.alloc (.cells #[iv m,.slice da n dc,.slice ta n tc,.slice ba n bc] SYT)=V from HV.o]
 try rw [hz]
 clear hww;go_wp2_with fail;go_loopw [5,6,7,8] (fun va vb vu y wr=>∃(i:Nat) (la lb:List QSet),i≤n∧y=.int .i64 i∧Hid (Th3 bt bt z m w2 wr (.slice da n dc) (.slice ta n tc) (.slice ba n bc) va vb vu la lb (List.zipWith orS la lb) [])∧Hid (la.length=i∧lb.length=i)∧Hid ((∀x∈la,Ok m x)∧∀x∈lb,Ok m x)) (fun _ _ _ y _=>n-(intOf y).toNat)
 case atStart=>exact⟨0,[],[],Nat.zero_le _,rfl,I0.o,⟨rfl,rfl⟩,⟨by simp,by simp⟩⟩
 case round=>
  clear I0;obtain⟨i,la,lb,hi,rfl,HT,HL,HO⟩:=hrel;by_cases hlt:i<n;rotate_left
  ·obtain rfl:i=n:=by omega
   have hzb:=HT.o.zb;obtain⟨aa,ac2,rfl⟩:=HT.o.oa.slice;obtain⟨xa,xc2,rfl⟩:=HT.o.ob.slice;obtain⟨va,vc2,rfl⟩:=HT.o.ou.slice;have HLZ:=Zh (show(List.zipWith orS la lb).length=i by rw [List.length_zipWith,HL.o.1,HL.o.2,Nat.min_self]);rw [HL.o.1,HL.o.2,HLZ.o] at HT ⊢;have HUO:=Zh (show ∀x∈List.zipWith orS la lb,Ok m x from fun x hx=>by
    obtain⟨j,hj,rfl⟩:=List.mem_iff_getElem.1 hx;rw [List.getElem_zipWith];exact(QCf (HO.o.1 _ (List.getElem_mem _)) (HO.o.2 _ (List.getElem_mem _))).1)
   have HSW:=Zh (show QKd wr (.slice da i dc) (.slice ta i tc) (.slice ba i bc) s from HSA.o.keep fun U hU=>HT.o.but.sameT T2.o (by
    intro h;subst h;revert hU;decide))
   have HRA:=Zh HT.o.oa.rows;have HRB:=Zh HT.o.ob.rows;have HRU:=Zh HT.o.ou.rows;obtain⟨t0,t1,t2,t3⟩:=QO HT.o.sb;go_wp2_with fail;refine(QMc HT.o.tape i (by omega)).mono ?_;rintro e w3 ⟨kx,k1,k2,rfl,ht3,hb3⟩;obtain⟨k,hk⟩:=Int.eq_ofNat_of_zero_le k1;subst hk;have hki:k<i:=by omega
   have HBW:=Zh (HT.o.but.trans hb3);have H3:=Zh (HT.o.next ht3 hb3);have HS3:=Zh (HSW.o.keep fun U hU=>hb3.sameT HT.o.tape (by
    intro h;subst h;revert hU;decide))
   have HA3:=Zh H3.o.oa.rows;have HB3:=Zh H3.o.ob.rows;have HU3:=Zh H3.o.ou.rows;have HRT:=Zh (QOr OK.o HL.o.1 HL.o.2 HO.o.1 HO.o.2 hki);have hsv:sysV s (.slice da i dc) (.slice ta i tc) (.slice ba i bc)=.agg #[iv m,.slice da i dc,.slice ta i tc,.slice ba i bc]:=by
    show Value.agg #[iv s.width,_,_,_]=_;rw [OK.o.width]
   have hzw:Base.b≤w3.heap.size:=by have:=H3.o.zs;omega
   obtain⟨rA,hrA⟩:=Ze (QWa s la k);obtain⟨rB,hrB⟩:=Ze (QWa s lb k);obtain⟨rU,hrU⟩:=Ze (QWa s (List.zipWith orS la lb) k);have hok:∀v,v.length=i→(∀x∈v,Ok m x)→Ok m (QWa s v k):=fun v hv hvo=>by
    obtain⟨_,_,_,_,_,_,h,_⟩:=QNf OK.o hv hvo hki;exact h
   have OA:=Zh (hrA▸hok la HL.o.1 HO.o.1);have OB:=Zh (hrB▸hok lb HL.o.2 HO.o.2);have OU:=Zh (hrU▸hok _ HLZ.o HUO.o);have KR:∀(v:List QSet) (vv:Value) (r:QSet),v.length=i→(∀x∈v,Ok m x)→QWa s v k=r→Qoa Qsa w3 vv v→∀x,Below w3.heap.size w3 x→Calls Tryz.prog 36 #[.agg #[iv m,.slice da i dc,.slice ta i tc,.slice ba i bc],vv,iv k] x (QAd (r,0) x):=fun v vv r hv hvo hr hrow x b=>by
    have h1:=QSo s OK.o.w v k (.slice da i dc) (.slice ta i tc) (.slice ba i bc) vv x (HS3.o.below b) (hrow.below b) (by have:=b.size;omega);rw [hsv,QCq OK.o hv hvo hki,hr] at h1;exact h1
   have KA:=Zh (KR la _ rA HL.o.1 HO.o.1 hrA HA3.o);have KB:=Zh (KR lb _ rB HL.o.2 HO.o.2 hrB HB3.o);have KU:=Zh (KR _ _ rU HLZ.o HUO.o hrU HU3.o);have HOR:=Zh (show orS rA rB=rU by rw [←hrA,←hrB,←hrU];exact HRT.o.1);have HSB:=Zh (show subB rA rU=true from Qfu OA.o OU.o (by rw [←hrA,←hrU];exact HRT.o.2));clear t0 t1 t2 t3 HT HSW HRA HRB HRU ht3 hb3 k1 k2 HRT hok KR hsv hrA hrB hrU HA3 HB3 HU3;obtain⟨t0,t1,t2,t3⟩:=QO H3.o.sb;have B3w:=Zh (Below.refl w3.heap.size w3);go_wp2_with fail;refine(KA.o _ B3w.o).mono ?_;rintro e w4 ⟨u4,rfl,hu4,b4⟩;obtain⟨a4,n4,c4,rfl⟩:=hu4.shape;rw [show setV (rA,(0:Int)).1 (.slice a4 n4 c4)=.agg #[iv m,.slice a4 n4 c4] by unfold setV;rw [OA.o.width]];obtain⟨p4,hp4⟩:=Ze w4.heap.size;obtain⟨W4,hW4⟩:=Ze (w4.alloc (.cells #[iv m,.slice a4 n4 c4] ST));have HW4:=Zh hW4;have S4:=Zh (show Below w3.heap.size w3 W4 by rw [←hW4];exact b4.alloc b4.size _);have B4w:=Zh (show Below w3.heap.size w3 W4 from B3w.o.trans (S4.o.mono B3w.o.size));have P4:=Zh (show W4.heap[p4]? = some (.cells #[iv m,.slice a4 n4 c4] ST (0,0)) by rw [←hW4,←hp4];exact heap_alloc_new _ _);have U4:=Zh (show Qi W4 (.slice a4 n4 c4) rA.words by rw [←hW4];exact hu4.keep Qf.alloc);clear hu4 b4 hW4 t0 t1 t2 t3;go_upto_region 12 with(fail)
   rw [show w4.alloc (.cells #[iv m,.slice a4 n4 c4] ST)=W4 from HW4.o]
   try rw [hp4]
   obtain⟨t0,t1,t2,t3⟩:=QO (H3.o.below B4w.o).sb;go_wp2_with fail;refine(KB.o _ B4w.o).mono ?_;rintro e w5 ⟨u5,rfl,hu5,b5⟩;obtain⟨a5,n5,c5,rfl⟩:=hu5.shape;rw [show setV (rB,(0:Int)).1 (.slice a5 n5 c5)=.agg #[iv m,.slice a5 n5 c5] by unfold setV;rw [OB.o.width]];obtain⟨p5,hp5⟩:=Ze w5.heap.size;obtain⟨W5,hW5⟩:=Ze (w5.alloc (.cells #[iv m,.slice a5 n5 c5] ST));have HW5:=Zh hW5;have S5:=Zh (show Below W4.heap.size W4 W5 by rw [←hW5];exact b5.alloc b5.size _);have B5w:=Zh (show Below w3.heap.size w3 W5 from B4w.o.trans (S5.o.mono B4w.o.size));have P5:=Zh (show W5.heap[p5]? = some (.cells #[iv m,.slice a5 n5 c5] ST (0,0)) by rw [←hW5,←hp5];exact heap_alloc_new _ _);have U5:=Zh (show Qi W5 (.slice a5 n5 c5) rB.words by rw [←hW5];exact hu5.keep Qf.alloc);clear hu5 b5 hW5 t0 t1 t2 t3;go_upto_region 13 with(fail)
   rw [show w5.alloc (.cells #[iv m,.slice a5 n5 c5] ST)=W5 from HW5.o]
   try rw [hp5]
   obtain⟨t0,t1,t2,t3⟩:=QO (H3.o.below B5w.o).sb;go_wp2_with fail;refine(KU.o _ B5w.o).mono ?_;rintro e w6 ⟨u6,rfl,hu6,b6⟩;obtain⟨a6,n6,c6,rfl⟩:=hu6.shape;rw [show setV (rU,(0:Int)).1 (.slice a6 n6 c6)=.agg #[iv m,.slice a6 n6 c6] by unfold setV;rw [OU.o.width]];obtain⟨p6,hp6⟩:=Ze w6.heap.size;obtain⟨W6,hW6⟩:=Ze (w6.alloc (.cells #[iv m,.slice a6 n6 c6] ST));have HW6:=Zh hW6;have S6:=Zh (show Below W5.heap.size W5 W6 by rw [←hW6];exact b6.alloc b6.size _);have B6w:=Zh (show Below w3.heap.size w3 W6 from B5w.o.trans (S6.o.mono B5w.o.size));have P6:=Zh (show W6.heap[p6]? = some (.cells #[iv m,.slice a6 n6 c6] ST (0,0)) by rw [←hW6,←hp6];exact heap_alloc_new _ _);have U6:=Zh (show Qi W6 (.slice a6 n6 c6) rU.words by rw [←hW6];exact hu6.keep Qf.alloc);clear hu6 b6 hW6 t0 t1 t2 t3;go_upto_region 14 with(fail)
   rw [show w6.alloc (.cells #[iv m,.slice a6 n6 c6] ST)=W6 from HW6.o]
   try rw [hp6]
   obtain⟨t0,t1,t2,t3⟩:=QO (H3.o.below B6w.o).sb;clear t0 t1 t2 t3;have P46:=Zh (Qc (Qc P4.o S5.o (Qb P4.o)) S6.o (by have:=Qb P4.o;have:=S5.o.size;omega):W6.heap[p4]? = _);have P56:=Zh (Qc P5.o S6.o (Qb P5.o):W6.heap[p5]? = _);have U46:=Zh ((U4.o.below S5.o).below S6.o:Qi W6 _ _);have U56:=Zh (U5.o.below S6.o:Qi W6 _ _);obtain⟨x0,x1⟩:=Qq P46.o;obtain⟨y0,y1⟩:=Qq P56.o;have KUN:=Zh (show Calls Tryz.prog 35 #[.agg #[iv m,.slice a4 n4 c4],.agg #[iv m,.slice a5 n5 c5]] W6 (SetE (rU,0) W6) by
    have h1:=Qvf rA rB _ _ W6 U46.o U56.o;rw [QAp OA.o OB.o,HOR.o,show setV rA (.slice a4 n4 c4)=.agg #[iv m,.slice a4 n4 c4] by unfold setV;rw [OA.o.width],show setV rB (.slice a5 n5 c5)=.agg #[iv m,.slice a5 n5 c5] by unfold setV;rw [OB.o.width]] at h1;exact h1)
   go_wp2_with fail;refine KUN.o.mono ?_;rintro e w7 ⟨u7,rfl,hu7,b7⟩;obtain⟨a7,n7,c7,rfl⟩:=hu7.words.shape;rw [show setV (rU,(0:Int)).1 (.slice a7 n7 c7)=.agg #[iv m,.slice a7 n7 c7] by unfold setV;rw [OU.o.width]];obtain⟨p7,hp7⟩:=Ze w7.heap.size;obtain⟨W7,hW7⟩:=Ze (w7.alloc (.cells #[iv m,.slice a7 n7 c7] ST));have HW7:=Zh hW7;have S7:=Zh (show Below W6.heap.size W6 W7 by rw [←hW7];exact b7.alloc b7.size _);have P7:=Zh (show W7.heap[p7]? = some (.cells #[iv m,.slice a7 n7 c7] ST (0,0)) by rw [←hW7,←hp7];exact heap_alloc_new _ _);have U7:=Zh (show Qi W7 (.slice a7 n7 c7) rU.words by rw [←hW7];exact hu7.words.keep Qf.alloc);have P67:=Zh (Qc P6.o S7.o (Qb P6.o):W7.heap[p6]? = _);have P47:=Zh (Qc P46.o S7.o (Qb P46.o):W7.heap[p4]? = _);have U67:=Zh (U6.o.below S7.o:Qi W7 _ _);have U47:=Zh (U46.o.below S7.o:Qi W7 _ _);have HBF:=Zh (show Below bt w0 W7 by
    have h3:=QDi B2.o HBW.o (Nat.le_refl _) (by have:=T2.o.lt;omega);have hsz:bt≤w3.heap.size:=by have:=H3.o.zs;have:=H3.o.old;omega
    have h6:=h3.trans ((B6w.o).mono hsz);exact h6.trans (S7.o.mono (by have:=B6w.o.size;omega)))
   clear hu7 b7 hW7 x0 x1 y0 y1 KUN;go_upto_region 15 with(fail)
   rw [show w7.alloc (.cells #[iv m,.slice a7 n7 c7] ST)=W7 from HW7.o]
   try rw [hp7]
   obtain⟨x0,x1⟩:=Qq P47.o;obtain⟨y0,y1⟩:=Qq P67.o;obtain⟨q0,q1⟩:=Qq P7.o;have KSU:=Zh (show Calls Tryz.prog 37 #[.agg #[iv m,.slice a4 n4 c4],.agg #[iv m,.slice a6 n6 c6]] W7 (Qia true W7) by
    have h1:=Qln rA rU _ _ W7 U47.o U67.o;rw [HSB.o,show setV rA (.slice a4 n4 c4)=.agg #[iv m,.slice a4 n4 c4] by unfold setV;rw [OA.o.width],show setV rU (.slice a6 n6 c6)=.agg #[iv m,.slice a6 n6 c6] by unfold setV;rw [OU.o.width]] at h1;exact h1)
   have KEQ:=Zh (show ∀x,Below W7.heap.size W7 x→Calls Tryz.prog 38 #[.agg #[iv m,.slice a7 n7 c7],.agg #[iv m,.slice a6 n6 c6]] x (Qia true x) from fun x b=>by
    have h1:=Qdp rU rU _ _ x (U7.o.below b) (U67.o.below b);rw [QDs OU.o,show setV rU (.slice a7 n7 c7)=.agg #[iv m,.slice a7 n7 c7] by unfold setV;rw [OU.o.width],show setV rU (.slice a6 n6 c6)=.agg #[iv m,.slice a6 n6 c6] by unfold setV;rw [OU.o.width]] at h1;exact h1)
   have KSN:=Zh (show ∀x,Below W7.heap.size W7 x→Calls Tryz.prog 15 #[] x (Qia true x) from fun x b=>by
    have hb:Below bt w0 x:=HBF.o.trans (b.mono (by have:=HBF.o.size;omega));exact QKr (B:=bt) (KW.o.keep fun k hk=>hb.block k (by omega)) (EF.o.below (hb.mono (by omega))) (TZ.o.below (hb.mono (by omega))) (by have:=hb.size;omega))
   go_wp2_with (first
   |(go_at_call 37;refine KSU.o.mono ?_;rintro e w8 ⟨rfl,b8⟩;have S8:=Zh b8;have z0:=(Qq (Qc P7.o b8 (Qb P7.o))).1;have z1:=(Qq (Qc P7.o b8 (Qb P7.o))).2;have z2:=(Qq (Qc P67.o b8 (Qb P67.o))).1;have z3:=(Qq (Qc P67.o b8 (Qb P67.o))).2;clear b8 x0 x1 y0 y1 q0 q1)
   |(go_at_call 38;refine(KEQ.o _ S8.o).mono ?_;rintro e w9 ⟨rfl,b9⟩;have S9:=Zh (S8.o.trans (b9.mono S8.o.size):Below W7.heap.size W7 w9);clear b9 z0 z1 z2 z3)
   |(go_at_call 15;refine(KSN.o _ S9.o).mono ?_;rintro e w10 ⟨rfl,b10⟩;have S10:=Zh (S9.o.trans (b10.mono S9.o.size):Below W7.heap.size W7 w10);clear b10))
   go_ret;exact⟨rfl,by rw [hbt];exact HBF.o.trans (S10.o.mono (by have:=HBF.o.size;omega))⟩
  ·obtain⟨aa,ac2,rfl⟩:=HT.o.oa.slice;obtain⟨xa,xc2,rfl⟩:=HT.o.ob.slice;obtain⟨va,vc2,rfl⟩:=HT.o.ou.slice;obtain⟨lw,hlw⟩:=Ze ((List.zipWith orS la lb).length);rw [hlw] at HT ⊢;have HLW:=Zh hlw;have hlw16:lw≤16:=by
    rw [←hlw,List.length_zipWith];have:=HL.o.1;omega
   clear hlw;obtain⟨t0,t1,t2,t3⟩:=QO HT.o.sb;go_upto_region 7 with(fail)
   clear t0 t1 t2 t3;go_cut [9,10] from 33 to 41 (fun s9 s10 wx=>∃(pa pb:Nat) (ux uy:Value) (x y:QSet),s9=.pointer (some ⟨pa,0,none⟩)∧s10=.pointer (some ⟨pb,0,none⟩)∧Hid (Ok m x)∧Hid (Ok m y)∧Hid (Th3 bt bt z m w2 wx (.slice da n dc) (.slice ta n tc) (.slice ba n bc) (.slice aa la.length ac2) (.slice xa lb.length xc2) (.slice va lw vc2) la lb (List.zipWith orS la lb) [(pa,ux,x),(pb,uy,y)]))
   case first=>
    refine Qdi (S:=fun w'=>w'.cell? ⟨z,0,none⟩=some (iv m)) (st:=10) (by kernel_rfl) ?_;obtain⟨X0_,hX0⟩:=Ze (wr.drewN 1);rw [hX0];have HTs:=Zh (show Th3 bt bt z m w2 X0_ (.slice da n dc) (.slice ta n tc) (.slice ba n bc) (.slice aa la.length ac2) (.slice xa lb.length xc2) (.slice va lw vc2) la lb (List.zipWith orS la lb) [] by rw [←hX0];exact HT.o.drew 1);have HBs:=Zh (But.refl bt X0_);clear hX0;have hS0:(fun w':World=>w'.cell? ⟨z,0,none⟩=some (iv m)) X0_:=(QO HTs.o.sb).1;refine Zl 0 (some 33) [] ?v1 hS0 ?r1 ?t1
    case r1=>intro w hS;have s0:=hS;go_simp;rfl
    refine Zl 1 (some 34) [] ?v2 hS0 ?r2 ?t2
    case r2=>intro w hS;have s0:=hS;go_simp;rfl
    refine Zl 2 (some 35) [] ?v3 hS0 ?r3 ?t3
    case r3=>intro w hS;have s0:=hS;go_simp;rfl
    refine Zl 4 (some 37) [7] ?v4 hS0 ?r4 ?t4
    case r4=>intro w hS;have s0:=hS;go_simp;rfl
    refine Zl 5 (some 38) [6,7] ?v5 hS0 ?r5 ?t5
    case r5=>intro w hS;have s0:=hS;go_simp;rfl
    refine Zl 6 (some 39) [7] ?v6 hS0 ?r6 ?t6
    case r6=>intro w hS;have s0:=hS;go_simp;rfl
    refine Qn (rs:=[3,8,9]) (by kernel_rfl) (by decide) ?_;intro j hj;have hj2:j=3∨j=8∨j=9:=by simpa using hj
    clear hj;rcases hj2 with rfl|rfl|rfl
    ·refine Qla 3 (some 36) 34 #[.pointer (some ⟨bt,0,none⟩),iv m] rfl (by kernel_rfl) (by kernel_rfl) rfl ?_;refine(Qfb m (by omega) _ HTs.o.tape).mono ?_;rintro e X1_ ⟨x,ux,rfl,hf,hw,hok,hu,ht,hb⟩;obtain⟨ax,nx,cx,rfl⟩:=hu.shape;rw [show setV x (.slice ax nx cx)=.agg #[iv m,.slice ax nx cx] by unfold setV;rw [hw]];have OX:=Zh (show Ok m x from⟨hf,hok,hw⟩);have HT1:=Zh (HTs.o.next ht hb);have HB1:=Zh (HBs.o.trans hb);have Ux1:=Zh hu;clear hf hw hok hu ht hb hS0;have hS0:=(QO HT1.o.sb).1;refine⟨_,rfl,fun _=>hS0,?_⟩;refine Qn (rs:=[7,8,9]) (by kernel_rfl) (by decide) ?_;intro j hj;have hj2:j=7∨j=8∨j=9:=by simpa using hj
     clear hj;rcases hj2 with rfl|rfl|rfl
     ·refine Qla 7 (some 40) 34 #[.pointer (some ⟨bt,0,none⟩),iv m] rfl (by kernel_rfl) (by kernel_rfl) rfl ?_;refine(Qfb m (by omega) _ HT1.o.tape).mono ?_;rintro e X2_ ⟨y,uy,rfl,hf,hw,hok,hu,ht,hb⟩;obtain⟨ay,ny,cy,rfl⟩:=hu.shape;rw [show setV y (.slice ay ny cy)=.agg #[iv m,.slice ay ny cy] by unfold setV;rw [hw]];have OY:=Zh (show Ok m y from⟨hf,hok,hw⟩);have HT2:=Zh (HT1.o.next ht hb);have HB2:=Zh (HB1.o.trans hb);have Ux2:=Zh (Ux1.o.keep (hb.sameT HT1.o.tape (by decide)));have Uy2:=Zh hu;clear hf hw hok hu ht hb hS0;have hS0:=(QO HT2.o.sb).1;refine⟨_,rfl,fun _=>hS0,?_⟩;refine Qn (rs:=[8,9]) (by kernel_rfl) (by decide) ?_;intro j hj;have hj2:j=8∨j=9:=by simpa using hj
      clear hj;rcases hj2 with rfl|rfl
      ·obtain⟨pa,hpa⟩:=Ze X2_.heap.size;obtain⟨X3_,hX3⟩:=Ze (X2_.alloc (.cells #[iv 0,.slice none 0 0] ST));refine Qs 8 (some 9) (.pointer (some ⟨pa,0,none⟩)) X3_ rfl (by kernel_rfl) ?u9 rfl ?_
       case u9=>rw [←hX3,←hpa];go_simp
       have hpas:X0_.heap.size≤pa:=by have:=HB2.o.size;omega
       have HT3:=Zh (hX3▸HT2.o.al _);have HB3:=Zh (hX3▸HB2.o.alloc _);have Ux3:=Zh (hX3▸Ux2.o.keep Qf.alloc);have Uy3:=Zh (hX3▸Uy2.o.keep Qf.alloc);have Ppa3:=Zh (hpa▸hX3▸heap_alloc_new X2_ (.cells #[iv 0,.slice none 0 0] ST));clear hX3 hS0 hpa;have hS0:=(QO HT3.o.sb).1;refine⟨fun _=>hS0,?_⟩;refine Zo 9 ?_;obtain⟨pb,hpb⟩:=Ze X3_.heap.size;obtain⟨X4_,hX4⟩:=Ze (X3_.alloc (.cells #[iv 0,.slice none 0 0] ST));refine Qs 9 (some 10) (.pointer (some ⟨pb,0,none⟩)) X4_ rfl (by kernel_rfl) ?u10 rfl ?_
       case u10=>rw [←hX4,←hpb];go_simp
       have hpbs:X0_.heap.size≤pb:=by have:=HB3.o.size;omega
       have HT4:=Zh (hX4▸HT3.o.al _);have HB4:=Zh (hX4▸HB3.o.alloc _);have Ux4:=Zh (hX4▸Ux3.o.keep Qf.alloc);have Uy4:=Zh (hX4▸Uy3.o.keep Qf.alloc);have Ppa4:=Zh (hX4▸Qz _ Ppa3.o);have HNE:=Zh (show pa≠pb by have:=Qb Ppa3.o;omega);have Ppb4:=Zh (hpb▸hX4▸heap_alloc_new X3_ (.cells #[iv 0,.slice none 0 0] ST));clear hX4 hS0 hpb;have hS0:=(QO HT4.o.sb).1;refine⟨fun _=>hS0,?_⟩;refine Zo 10 ?_;have HF:=Zh (HTs.o.two HT4.o HB4.o hpas hpbs HNE.o Ppa4.o Ppb4.o Ux4.o Uy4.o);have hne:=HNE.o;have hne2:=HNE.o.symm;obtain⟨g0,g1⟩:=Qq Ppa4.o;obtain⟨g2,g3⟩:=Qq Ppb4.o;have g4:=(Qa Ppa4.o).2 0;have g5:=(Qa Ppa4.o).2 1;have g6:=(Qa Ppb4.o).2 0;have g7:=(Qa Ppb4.o).2 1;clear hS0;refine QQ 10 none ((X4_.setCell ⟨pa,0,none⟩ (iv m)).setCell ⟨pa,1,none⟩ (.slice ax nx cx)) rfl (by kernel_rfl) ?u11 rfl ?_
       case u11=>go_simp
       refine⟨fun h=>absurd h (by decide),?_⟩;refine Zo 11 ?_;refine QQ 11 none ((((X4_.setCell ⟨pa,0,none⟩ (iv m)).setCell ⟨pa,1,none⟩ (.slice ax nx cx)).setCell ⟨pb,0,none⟩ (iv m)).setCell ⟨pb,1,none⟩ (.slice ay ny cy)) rfl (by kernel_rfl) ?u12 rfl ?_
       case u12=>go_simp
       refine⟨fun h=>absurd h (by decide),?_⟩;clear g0 g1 g2 g3 g4 g5 g6 g7 hne hne2;refine Qwa (by kernel_rfl) ?_ _;generalize hA:Act.put _ _ _=A0;simp only [Qba,Qaa,Zu,Zv,Zw] at hA;subst hA;go_wp2;go_meet
       case rel=>exact⟨_,_,_,_,_,_,rfl,rfl,OX.o,OY.o,HF.o⟩
      ·obtain⟨pb,hpb⟩:=Ze X2_.heap.size;obtain⟨X3_,hX3⟩:=Ze (X2_.alloc (.cells #[iv 0,.slice none 0 0] ST));refine Qs 9 (some 10) (.pointer (some ⟨pb,0,none⟩)) X3_ rfl (by kernel_rfl) ?u13 rfl ?_
       case u13=>rw [←hX3,←hpb];go_simp
       have hpbs:X0_.heap.size≤pb:=by have:=HB2.o.size;omega
       have HT3:=Zh (hX3▸HT2.o.al _);have HB3:=Zh (hX3▸HB2.o.alloc _);have Ux3:=Zh (hX3▸Ux2.o.keep Qf.alloc);have Uy3:=Zh (hX3▸Uy2.o.keep Qf.alloc);have Ppb3:=Zh (hpb▸hX3▸heap_alloc_new X2_ (.cells #[iv 0,.slice none 0 0] ST));clear hX3 hS0 hpb;have hS0:=(QO HT3.o.sb).1;refine⟨fun _=>hS0,?_⟩;refine Zo 8 ?_;obtain⟨pa,hpa⟩:=Ze X3_.heap.size;obtain⟨X4_,hX4⟩:=Ze (X3_.alloc (.cells #[iv 0,.slice none 0 0] ST));refine Qs 8 (some 9) (.pointer (some ⟨pa,0,none⟩)) X4_ rfl (by kernel_rfl) ?u14 rfl ?_
       case u14=>rw [←hX4,←hpa];go_simp
       have hpas:X0_.heap.size≤pa:=by have:=HB3.o.size;omega
       have HT4:=Zh (hX4▸HT3.o.al _);have HB4:=Zh (hX4▸HB3.o.alloc _);have Ux4:=Zh (hX4▸Ux3.o.keep Qf.alloc);have Uy4:=Zh (hX4▸Uy3.o.keep Qf.alloc);have Ppb4:=Zh (hX4▸Qz _ Ppb3.o);have HNE:=Zh (show pa≠pb by have:=Qb Ppb3.o;omega);have Ppa4:=Zh (hpa▸hX4▸heap_alloc_new X3_ (.cells #[iv 0,.slice none 0 0] ST));clear hX4 hS0 hpa;have hS0:=(QO HT4.o.sb).1;refine⟨fun _=>hS0,?_⟩;refine Zo 10 ?_;have HF:=Zh (HTs.o.two HT4.o HB4.o hpas hpbs HNE.o Ppa4.o Ppb4.o Ux4.o Uy4.o);have hne:=HNE.o;have hne2:=HNE.o.symm;obtain⟨g0,g1⟩:=Qq Ppa4.o;obtain⟨g2,g3⟩:=Qq Ppb4.o;have g4:=(Qa Ppa4.o).2 0;have g5:=(Qa Ppa4.o).2 1;have g6:=(Qa Ppb4.o).2 0;have g7:=(Qa Ppb4.o).2 1;clear hS0;refine QQ 10 none ((X4_.setCell ⟨pa,0,none⟩ (iv m)).setCell ⟨pa,1,none⟩ (.slice ax nx cx)) rfl (by kernel_rfl) ?u15 rfl ?_
       case u15=>go_simp
       refine⟨fun h=>absurd h (by decide),?_⟩;refine Zo 11 ?_;refine QQ 11 none ((((X4_.setCell ⟨pa,0,none⟩ (iv m)).setCell ⟨pa,1,none⟩ (.slice ax nx cx)).setCell ⟨pb,0,none⟩ (iv m)).setCell ⟨pb,1,none⟩ (.slice ay ny cy)) rfl (by kernel_rfl) ?u16 rfl ?_
       case u16=>go_simp
       refine⟨fun h=>absurd h (by decide),?_⟩;clear g0 g1 g2 g3 g4 g5 g6 g7 hne hne2;refine Qwa (by kernel_rfl) ?_ _;generalize hA:Act.put _ _ _=A0;simp only [Qba,Qaa,Zu,Zv,Zw] at hA;subst hA;go_wp2;go_meet
       case rel=>exact⟨_,_,_,_,_,_,rfl,rfl,OX.o,OY.o,HF.o⟩
     ·obtain⟨pa,hpa⟩:=Ze X1_.heap.size;obtain⟨X2_,hX2⟩:=Ze (X1_.alloc (.cells #[iv 0,.slice none 0 0] ST));refine Qs 8 (some 9) (.pointer (some ⟨pa,0,none⟩)) X2_ rfl (by kernel_rfl) ?u17 rfl ?_
      case u17=>rw [←hX2,←hpa];go_simp
      have hpas:X0_.heap.size≤pa:=by have:=HB1.o.size;omega
      have HT2:=Zh (hX2▸HT1.o.al _);have HB2:=Zh (hX2▸HB1.o.alloc _);have Ux2:=Zh (hX2▸Ux1.o.keep Qf.alloc);have Ppa2:=Zh (hpa▸hX2▸heap_alloc_new X1_ (.cells #[iv 0,.slice none 0 0] ST));clear hX2 hS0 hpa;have hS0:=(QO HT2.o.sb).1;refine⟨fun _=>hS0,?_⟩;refine Qn (rs:=[7,9]) (by kernel_rfl) (by decide) ?_;intro j hj;have hj2:j=7∨j=9:=by simpa using hj
      clear hj;rcases hj2 with rfl|rfl
      ·refine Qla 7 (some 40) 34 #[.pointer (some ⟨bt,0,none⟩),iv m] rfl (by kernel_rfl) (by kernel_rfl) rfl ?_;refine(Qfb m (by omega) _ HT2.o.tape).mono ?_;rintro e X3_ ⟨y,uy,rfl,hf,hw,hok,hu,ht,hb⟩;obtain⟨ay,ny,cy,rfl⟩:=hu.shape;rw [show setV y (.slice ay ny cy)=.agg #[iv m,.slice ay ny cy] by unfold setV;rw [hw]];have OY:=Zh (show Ok m y from⟨hf,hok,hw⟩);have HT3:=Zh (HT2.o.next ht hb);have HB3:=Zh (HB2.o.trans hb);have Ux3:=Zh (Ux2.o.keep (hb.sameT HT2.o.tape (by decide)));have Ppa3:=Zh ((hb.block pa (Qb Ppa2.o) (by have:=HT2.o.old;have:=HTs.o.zs;omega)).trans Ppa2.o);have Uy3:=Zh hu;clear hf hw hok hu ht hb hS0;have hS0:=(QO HT3.o.sb).1;refine⟨_,rfl,fun _=>hS0,?_⟩;refine Zo 9 ?_;obtain⟨pb,hpb⟩:=Ze X3_.heap.size;obtain⟨X4_,hX4⟩:=Ze (X3_.alloc (.cells #[iv 0,.slice none 0 0] ST));refine Qs 9 (some 10) (.pointer (some ⟨pb,0,none⟩)) X4_ rfl (by kernel_rfl) ?u19 rfl ?_
       case u19=>rw [←hX4,←hpb];go_simp
       have hpbs:X0_.heap.size≤pb:=by have:=HB3.o.size;omega
       have HT4:=Zh (hX4▸HT3.o.al _);have HB4:=Zh (hX4▸HB3.o.alloc _);have Ux4:=Zh (hX4▸Ux3.o.keep Qf.alloc);have Ppa4:=Zh (hX4▸Qz _ Ppa3.o);have HNE:=Zh (show pa≠pb by have:=Qb Ppa3.o;omega);have Uy4:=Zh (hX4▸Uy3.o.keep Qf.alloc);have Ppb4:=Zh (hpb▸hX4▸heap_alloc_new X3_ (.cells #[iv 0,.slice none 0 0] ST));clear hX4 hS0 hpb;have hS0:=(QO HT4.o.sb).1;refine⟨fun _=>hS0,?_⟩;refine Zo 10 ?_;have HF:=Zh (HTs.o.two HT4.o HB4.o hpas hpbs HNE.o Ppa4.o Ppb4.o Ux4.o Uy4.o);have hne:=HNE.o;have hne2:=HNE.o.symm;obtain⟨g0,g1⟩:=Qq Ppa4.o;obtain⟨g2,g3⟩:=Qq Ppb4.o;have g4:=(Qa Ppa4.o).2 0;have g5:=(Qa Ppa4.o).2 1;have g6:=(Qa Ppb4.o).2 0;have g7:=(Qa Ppb4.o).2 1;clear hS0;refine QQ 10 none ((X4_.setCell ⟨pa,0,none⟩ (iv m)).setCell ⟨pa,1,none⟩ (.slice ax nx cx)) rfl (by kernel_rfl) ?u20 rfl ?_
       case u20=>go_simp
       refine⟨fun h=>absurd h (by decide),?_⟩;refine Zo 11 ?_;refine QQ 11 none ((((X4_.setCell ⟨pa,0,none⟩ (iv m)).setCell ⟨pa,1,none⟩ (.slice ax nx cx)).setCell ⟨pb,0,none⟩ (iv m)).setCell ⟨pb,1,none⟩ (.slice ay ny cy)) rfl (by kernel_rfl) ?u21 rfl ?_
       case u21=>go_simp
       refine⟨fun h=>absurd h (by decide),?_⟩;clear g0 g1 g2 g3 g4 g5 g6 g7 hne hne2;refine Qwa (by kernel_rfl) ?_ _;generalize hA:Act.put _ _ _=A0;simp only [Qba,Qaa,Zu,Zv,Zw] at hA;subst hA;go_wp2;go_meet
       case rel=>exact⟨_,_,_,_,_,_,rfl,rfl,OX.o,OY.o,HF.o⟩
      ·obtain⟨pb,hpb⟩:=Ze X2_.heap.size;obtain⟨X3_,hX3⟩:=Ze (X2_.alloc (.cells #[iv 0,.slice none 0 0] ST));refine Qs 9 (some 10) (.pointer (some ⟨pb,0,none⟩)) X3_ rfl (by kernel_rfl) ?u22 rfl ?_
       case u22=>rw [←hX3,←hpb];go_simp
       have hpbs:X0_.heap.size≤pb:=by have:=HB2.o.size;omega
       have HT3:=Zh (hX3▸HT2.o.al _);have HB3:=Zh (hX3▸HB2.o.alloc _);have Ux3:=Zh (hX3▸Ux2.o.keep Qf.alloc);have Ppa3:=Zh (hX3▸Qz _ Ppa2.o);have HNE:=Zh (show pa≠pb by have:=Qb Ppa2.o;omega);have Ppb3:=Zh (hpb▸hX3▸heap_alloc_new X2_ (.cells #[iv 0,.slice none 0 0] ST));clear hX3 hS0 hpb;have hS0:=(QO HT3.o.sb).1;refine⟨fun _=>hS0,?_⟩;refine Zo 7 ?_;refine Qla 7 (some 40) 34 #[.pointer (some ⟨bt,0,none⟩),iv m] rfl (by kernel_rfl) (by kernel_rfl) rfl ?_;refine(Qfb m (by omega) _ HT3.o.tape).mono ?_;rintro e X4_ ⟨y,uy,rfl,hf,hw,hok,hu,ht,hb⟩;obtain⟨ay,ny,cy,rfl⟩:=hu.shape;rw [show setV y (.slice ay ny cy)=.agg #[iv m,.slice ay ny cy] by unfold setV;rw [hw]];have OY:=Zh (show Ok m y from⟨hf,hok,hw⟩);have HT4:=Zh (HT3.o.next ht hb);have HB4:=Zh (HB3.o.trans hb);have Ux4:=Zh (Ux3.o.keep (hb.sameT HT3.o.tape (by decide)));have Ppa4:=Zh ((hb.block pa (Qb Ppa3.o) (by have:=HT3.o.old;have:=HTs.o.zs;omega)).trans Ppa3.o);have Ppb4:=Zh ((hb.block pb (Qb Ppb3.o) (by have:=HT3.o.old;have:=HTs.o.zs;omega)).trans Ppb3.o);have Uy4:=Zh hu;clear hf hw hok hu ht hb hS0;have hS0:=(QO HT4.o.sb).1;refine⟨_,rfl,fun _=>hS0,?_⟩;refine Zo 10 ?_;have HF:=Zh (HTs.o.two HT4.o HB4.o hpas hpbs HNE.o Ppa4.o Ppb4.o Ux4.o Uy4.o);have hne:=HNE.o;have hne2:=HNE.o.symm;obtain⟨g0,g1⟩:=Qq Ppa4.o;obtain⟨g2,g3⟩:=Qq Ppb4.o;have g4:=(Qa Ppa4.o).2 0;have g5:=(Qa Ppa4.o).2 1;have g6:=(Qa Ppb4.o).2 0;have g7:=(Qa Ppb4.o).2 1;clear hS0;refine QQ 10 none ((X4_.setCell ⟨pa,0,none⟩ (iv m)).setCell ⟨pa,1,none⟩ (.slice ax nx cx)) rfl (by kernel_rfl) ?u24 rfl ?_
       case u24=>go_simp
       refine⟨fun h=>absurd h (by decide),?_⟩;refine Zo 11 ?_;refine QQ 11 none ((((X4_.setCell ⟨pa,0,none⟩ (iv m)).setCell ⟨pa,1,none⟩ (.slice ax nx cx)).setCell ⟨pb,0,none⟩ (iv m)).setCell ⟨pb,1,none⟩ (.slice ay ny cy)) rfl (by kernel_rfl) ?u25 rfl ?_
       case u25=>go_simp
       refine⟨fun h=>absurd h (by decide),?_⟩;clear g0 g1 g2 g3 g4 g5 g6 g7 hne hne2;refine Qwa (by kernel_rfl) ?_ _;generalize hA:Act.put _ _ _=A0;simp only [Qba,Qaa,Zu,Zv,Zw] at hA;subst hA;go_wp2;go_meet
       case rel=>exact⟨_,_,_,_,_,_,rfl,rfl,OX.o,OY.o,HF.o⟩
     ·obtain⟨pb,hpb⟩:=Ze X1_.heap.size;obtain⟨X2_,hX2⟩:=Ze (X1_.alloc (.cells #[iv 0,.slice none 0 0] ST));refine Qs 9 (some 10) (.pointer (some ⟨pb,0,none⟩)) X2_ rfl (by kernel_rfl) ?u26 rfl ?_
      case u26=>rw [←hX2,←hpb];go_simp
      have hpbs:X0_.heap.size≤pb:=by have:=HB1.o.size;omega
      have HT2:=Zh (hX2▸HT1.o.al _);have HB2:=Zh (hX2▸HB1.o.alloc _);have Ux2:=Zh (hX2▸Ux1.o.keep Qf.alloc);have Ppb2:=Zh (hpb▸hX2▸heap_alloc_new X1_ (.cells #[iv 0,.slice none 0 0] ST));clear hX2 hS0 hpb;have hS0:=(QO HT2.o.sb).1;refine⟨fun _=>hS0,?_⟩;refine Qn (rs:=[7,8]) (by kernel_rfl) (by decide) ?_;intro j hj;have hj2:j=7∨j=8:=by simpa using hj
      clear hj;rcases hj2 with rfl|rfl
      ·refine Qla 7 (some 40) 34 #[.pointer (some ⟨bt,0,none⟩),iv m] rfl (by kernel_rfl) (by kernel_rfl) rfl ?_;refine(Qfb m (by omega) _ HT2.o.tape).mono ?_;rintro e X3_ ⟨y,uy,rfl,hf,hw,hok,hu,ht,hb⟩;obtain⟨ay,ny,cy,rfl⟩:=hu.shape;rw [show setV y (.slice ay ny cy)=.agg #[iv m,.slice ay ny cy] by unfold setV;rw [hw]];have OY:=Zh (show Ok m y from⟨hf,hok,hw⟩);have HT3:=Zh (HT2.o.next ht hb);have HB3:=Zh (HB2.o.trans hb);have Ux3:=Zh (Ux2.o.keep (hb.sameT HT2.o.tape (by decide)));have Ppb3:=Zh ((hb.block pb (Qb Ppb2.o) (by have:=HT2.o.old;have:=HTs.o.zs;omega)).trans Ppb2.o);have Uy3:=Zh hu;clear hf hw hok hu ht hb hS0;have hS0:=(QO HT3.o.sb).1;refine⟨_,rfl,fun _=>hS0,?_⟩;refine Zo 8 ?_;obtain⟨pa,hpa⟩:=Ze X3_.heap.size;obtain⟨X4_,hX4⟩:=Ze (X3_.alloc (.cells #[iv 0,.slice none 0 0] ST));refine Qs 8 (some 9) (.pointer (some ⟨pa,0,none⟩)) X4_ rfl (by kernel_rfl) ?u28 rfl ?_
       case u28=>rw [←hX4,←hpa];go_simp
       have hpas:X0_.heap.size≤pa:=by have:=HB3.o.size;omega
       have HT4:=Zh (hX4▸HT3.o.al _);have HB4:=Zh (hX4▸HB3.o.alloc _);have Ux4:=Zh (hX4▸Ux3.o.keep Qf.alloc);have Ppb4:=Zh (hX4▸Qz _ Ppb3.o);have HNE:=Zh (show pa≠pb by have:=Qb Ppb3.o;omega);have Uy4:=Zh (hX4▸Uy3.o.keep Qf.alloc);have Ppa4:=Zh (hpa▸hX4▸heap_alloc_new X3_ (.cells #[iv 0,.slice none 0 0] ST));clear hX4 hS0 hpa;have hS0:=(QO HT4.o.sb).1;refine⟨fun _=>hS0,?_⟩;refine Zo 10 ?_;have HF:=Zh (HTs.o.two HT4.o HB4.o hpas hpbs HNE.o Ppa4.o Ppb4.o Ux4.o Uy4.o);have hne:=HNE.o;have hne2:=HNE.o.symm;obtain⟨g0,g1⟩:=Qq Ppa4.o;obtain⟨g2,g3⟩:=Qq Ppb4.o;have g4:=(Qa Ppa4.o).2 0;have g5:=(Qa Ppa4.o).2 1;have g6:=(Qa Ppb4.o).2 0;have g7:=(Qa Ppb4.o).2 1;clear hS0;refine QQ 10 none ((X4_.setCell ⟨pa,0,none⟩ (iv m)).setCell ⟨pa,1,none⟩ (.slice ax nx cx)) rfl (by kernel_rfl) ?u29 rfl ?_
       case u29=>go_simp
       refine⟨fun h=>absurd h (by decide),?_⟩;refine Zo 11 ?_;refine QQ 11 none ((((X4_.setCell ⟨pa,0,none⟩ (iv m)).setCell ⟨pa,1,none⟩ (.slice ax nx cx)).setCell ⟨pb,0,none⟩ (iv m)).setCell ⟨pb,1,none⟩ (.slice ay ny cy)) rfl (by kernel_rfl) ?u30 rfl ?_
       case u30=>go_simp
       refine⟨fun h=>absurd h (by decide),?_⟩;clear g0 g1 g2 g3 g4 g5 g6 g7 hne hne2;refine Qwa (by kernel_rfl) ?_ _;generalize hA:Act.put _ _ _=A0;simp only [Qba,Qaa,Zu,Zv,Zw] at hA;subst hA;go_wp2;go_meet
       case rel=>exact⟨_,_,_,_,_,_,rfl,rfl,OX.o,OY.o,HF.o⟩
      ·obtain⟨pa,hpa⟩:=Ze X2_.heap.size;obtain⟨X3_,hX3⟩:=Ze (X2_.alloc (.cells #[iv 0,.slice none 0 0] ST));refine Qs 8 (some 9) (.pointer (some ⟨pa,0,none⟩)) X3_ rfl (by kernel_rfl) ?u31 rfl ?_
       case u31=>rw [←hX3,←hpa];go_simp
       have hpas:X0_.heap.size≤pa:=by have:=HB2.o.size;omega
       have HT3:=Zh (hX3▸HT2.o.al _);have HB3:=Zh (hX3▸HB2.o.alloc _);have Ux3:=Zh (hX3▸Ux2.o.keep Qf.alloc);have Ppb3:=Zh (hX3▸Qz _ Ppb2.o);have HNE:=Zh (show pa≠pb by have:=Qb Ppb2.o;omega);have Ppa3:=Zh (hpa▸hX3▸heap_alloc_new X2_ (.cells #[iv 0,.slice none 0 0] ST));clear hX3 hS0 hpa;have hS0:=(QO HT3.o.sb).1;refine⟨fun _=>hS0,?_⟩;refine Zo 7 ?_;refine Qla 7 (some 40) 34 #[.pointer (some ⟨bt,0,none⟩),iv m] rfl (by kernel_rfl) (by kernel_rfl) rfl ?_;refine(Qfb m (by omega) _ HT3.o.tape).mono ?_;rintro e X4_ ⟨y,uy,rfl,hf,hw,hok,hu,ht,hb⟩;obtain⟨ay,ny,cy,rfl⟩:=hu.shape;rw [show setV y (.slice ay ny cy)=.agg #[iv m,.slice ay ny cy] by unfold setV;rw [hw]];have OY:=Zh (show Ok m y from⟨hf,hok,hw⟩);have HT4:=Zh (HT3.o.next ht hb);have HB4:=Zh (HB3.o.trans hb);have Ux4:=Zh (Ux3.o.keep (hb.sameT HT3.o.tape (by decide)));have Ppb4:=Zh ((hb.block pb (Qb Ppb3.o) (by have:=HT3.o.old;have:=HTs.o.zs;omega)).trans Ppb3.o);have Ppa4:=Zh ((hb.block pa (Qb Ppa3.o) (by have:=HT3.o.old;have:=HTs.o.zs;omega)).trans Ppa3.o);have Uy4:=Zh hu;clear hf hw hok hu ht hb hS0;have hS0:=(QO HT4.o.sb).1;refine⟨_,rfl,fun _=>hS0,?_⟩;refine Zo 10 ?_;have HF:=Zh (HTs.o.two HT4.o HB4.o hpas hpbs HNE.o Ppa4.o Ppb4.o Ux4.o Uy4.o);have hne:=HNE.o;have hne2:=HNE.o.symm;obtain⟨g0,g1⟩:=Qq Ppa4.o;obtain⟨g2,g3⟩:=Qq Ppb4.o;have g4:=(Qa Ppa4.o).2 0;have g5:=(Qa Ppa4.o).2 1;have g6:=(Qa Ppb4.o).2 0;have g7:=(Qa Ppb4.o).2 1;clear hS0;refine QQ 10 none ((X4_.setCell ⟨pa,0,none⟩ (iv m)).setCell ⟨pa,1,none⟩ (.slice ax nx cx)) rfl (by kernel_rfl) ?u33 rfl ?_
       case u33=>go_simp
       refine⟨fun h=>absurd h (by decide),?_⟩;refine Zo 11 ?_;refine QQ 11 none ((((X4_.setCell ⟨pa,0,none⟩ (iv m)).setCell ⟨pa,1,none⟩ (.slice ax nx cx)).setCell ⟨pb,0,none⟩ (iv m)).setCell ⟨pb,1,none⟩ (.slice ay ny cy)) rfl (by kernel_rfl) ?u34 rfl ?_
       case u34=>go_simp
       refine⟨fun h=>absurd h (by decide),?_⟩;clear g0 g1 g2 g3 g4 g5 g6 g7 hne hne2;refine Qwa (by kernel_rfl) ?_ _;generalize hA:Act.put _ _ _=A0;simp only [Qba,Qaa,Zu,Zv,Zw] at hA;subst hA;go_wp2;go_meet
       case rel=>exact⟨_,_,_,_,_,_,rfl,rfl,OX.o,OY.o,HF.o⟩
    ·obtain⟨pa,hpa⟩:=Ze X0_.heap.size;obtain⟨X1_,hX1⟩:=Ze (X0_.alloc (.cells #[iv 0,.slice none 0 0] ST));refine Qs 8 (some 9) (.pointer (some ⟨pa,0,none⟩)) X1_ rfl (by kernel_rfl) ?u35 rfl ?_
     case u35=>rw [←hX1,←hpa];go_simp
     have hpas:X0_.heap.size≤pa:=by have:=HBs.o.size;omega
     have HT1:=Zh (hX1▸HTs.o.al _);have HB1:=Zh (hX1▸HBs.o.alloc _);have Ppa1:=Zh (hpa▸hX1▸heap_alloc_new X0_ (.cells #[iv 0,.slice none 0 0] ST));clear hX1 hS0 hpa;have hS0:=(QO HT1.o.sb).1;refine⟨fun _=>hS0,?_⟩;refine Qn (rs:=[3,9]) (by kernel_rfl) (by decide) ?_;intro j hj;have hj2:j=3∨j=9:=by simpa using hj
     clear hj;rcases hj2 with rfl|rfl
     ·refine Qla 3 (some 36) 34 #[.pointer (some ⟨bt,0,none⟩),iv m] rfl (by kernel_rfl) (by kernel_rfl) rfl ?_;refine(Qfb m (by omega) _ HT1.o.tape).mono ?_;rintro e X2_ ⟨x,ux,rfl,hf,hw,hok,hu,ht,hb⟩;obtain⟨ax,nx,cx,rfl⟩:=hu.shape;rw [show setV x (.slice ax nx cx)=.agg #[iv m,.slice ax nx cx] by unfold setV;rw [hw]];have OX:=Zh (show Ok m x from⟨hf,hok,hw⟩);have HT2:=Zh (HT1.o.next ht hb);have HB2:=Zh (HB1.o.trans hb);have Ppa2:=Zh ((hb.block pa (Qb Ppa1.o) (by have:=HT1.o.old;have:=HTs.o.zs;omega)).trans Ppa1.o);have Ux2:=Zh hu;clear hf hw hok hu ht hb hS0;have hS0:=(QO HT2.o.sb).1;refine⟨_,rfl,fun _=>hS0,?_⟩;refine Qn (rs:=[7,9]) (by kernel_rfl) (by decide) ?_;intro j hj;have hj2:j=7∨j=9:=by simpa using hj
      clear hj;rcases hj2 with rfl|rfl
      ·refine Qla 7 (some 40) 34 #[.pointer (some ⟨bt,0,none⟩),iv m] rfl (by kernel_rfl) (by kernel_rfl) rfl ?_;refine(Qfb m (by omega) _ HT2.o.tape).mono ?_;rintro e X3_ ⟨y,uy,rfl,hf,hw,hok,hu,ht,hb⟩;obtain⟨ay,ny,cy,rfl⟩:=hu.shape;rw [show setV y (.slice ay ny cy)=.agg #[iv m,.slice ay ny cy] by unfold setV;rw [hw]];have OY:=Zh (show Ok m y from⟨hf,hok,hw⟩);have HT3:=Zh (HT2.o.next ht hb);have HB3:=Zh (HB2.o.trans hb);have Ppa3:=Zh ((hb.block pa (Qb Ppa2.o) (by have:=HT2.o.old;have:=HTs.o.zs;omega)).trans Ppa2.o);have Ux3:=Zh (Ux2.o.keep (hb.sameT HT2.o.tape (by decide)));have Uy3:=Zh hu;clear hf hw hok hu ht hb hS0;have hS0:=(QO HT3.o.sb).1;refine⟨_,rfl,fun _=>hS0,?_⟩;refine Zo 9 ?_;obtain⟨pb,hpb⟩:=Ze X3_.heap.size;obtain⟨X4_,hX4⟩:=Ze (X3_.alloc (.cells #[iv 0,.slice none 0 0] ST));refine Qs 9 (some 10) (.pointer (some ⟨pb,0,none⟩)) X4_ rfl (by kernel_rfl) ?u38 rfl ?_
       case u38=>rw [←hX4,←hpb];go_simp
       have hpbs:X0_.heap.size≤pb:=by have:=HB3.o.size;omega
       have HT4:=Zh (hX4▸HT3.o.al _);have HB4:=Zh (hX4▸HB3.o.alloc _);have Ppa4:=Zh (hX4▸Qz _ Ppa3.o);have HNE:=Zh (show pa≠pb by have:=Qb Ppa3.o;omega);have Ux4:=Zh (hX4▸Ux3.o.keep Qf.alloc);have Uy4:=Zh (hX4▸Uy3.o.keep Qf.alloc);have Ppb4:=Zh (hpb▸hX4▸heap_alloc_new X3_ (.cells #[iv 0,.slice none 0 0] ST));clear hX4 hS0 hpb;have hS0:=(QO HT4.o.sb).1;refine⟨fun _=>hS0,?_⟩;refine Zo 10 ?_;have HF:=Zh (HTs.o.two HT4.o HB4.o hpas hpbs HNE.o Ppa4.o Ppb4.o Ux4.o Uy4.o);have hne:=HNE.o;have hne2:=HNE.o.symm;obtain⟨g0,g1⟩:=Qq Ppa4.o;obtain⟨g2,g3⟩:=Qq Ppb4.o;have g4:=(Qa Ppa4.o).2 0;have g5:=(Qa Ppa4.o).2 1;have g6:=(Qa Ppb4.o).2 0;have g7:=(Qa Ppb4.o).2 1;clear hS0;refine QQ 10 none ((X4_.setCell ⟨pa,0,none⟩ (iv m)).setCell ⟨pa,1,none⟩ (.slice ax nx cx)) rfl (by kernel_rfl) ?u39 rfl ?_
       case u39=>go_simp
       refine⟨fun h=>absurd h (by decide),?_⟩;refine Zo 11 ?_;refine QQ 11 none ((((X4_.setCell ⟨pa,0,none⟩ (iv m)).setCell ⟨pa,1,none⟩ (.slice ax nx cx)).setCell ⟨pb,0,none⟩ (iv m)).setCell ⟨pb,1,none⟩ (.slice ay ny cy)) rfl (by kernel_rfl) ?u40 rfl ?_
       case u40=>go_simp
       refine⟨fun h=>absurd h (by decide),?_⟩;clear g0 g1 g2 g3 g4 g5 g6 g7 hne hne2;refine Qwa (by kernel_rfl) ?_ _;generalize hA:Act.put _ _ _=A0;simp only [Qba,Qaa,Zu,Zv,Zw] at hA;subst hA;go_wp2;go_meet
       case rel=>exact⟨_,_,_,_,_,_,rfl,rfl,OX.o,OY.o,HF.o⟩
      ·obtain⟨pb,hpb⟩:=Ze X2_.heap.size;obtain⟨X3_,hX3⟩:=Ze (X2_.alloc (.cells #[iv 0,.slice none 0 0] ST));refine Qs 9 (some 10) (.pointer (some ⟨pb,0,none⟩)) X3_ rfl (by kernel_rfl) ?u41 rfl ?_
       case u41=>rw [←hX3,←hpb];go_simp
       have hpbs:X0_.heap.size≤pb:=by have:=HB2.o.size;omega
       have HT3:=Zh (hX3▸HT2.o.al _);have HB3:=Zh (hX3▸HB2.o.alloc _);have Ppa3:=Zh (hX3▸Qz _ Ppa2.o);have HNE:=Zh (show pa≠pb by have:=Qb Ppa2.o;omega);have Ux3:=Zh (hX3▸Ux2.o.keep Qf.alloc);have Ppb3:=Zh (hpb▸hX3▸heap_alloc_new X2_ (.cells #[iv 0,.slice none 0 0] ST));clear hX3 hS0 hpb;have hS0:=(QO HT3.o.sb).1;refine⟨fun _=>hS0,?_⟩;refine Zo 7 ?_;refine Qla 7 (some 40) 34 #[.pointer (some ⟨bt,0,none⟩),iv m] rfl (by kernel_rfl) (by kernel_rfl) rfl ?_;refine(Qfb m (by omega) _ HT3.o.tape).mono ?_;rintro e X4_ ⟨y,uy,rfl,hf,hw,hok,hu,ht,hb⟩;obtain⟨ay,ny,cy,rfl⟩:=hu.shape;rw [show setV y (.slice ay ny cy)=.agg #[iv m,.slice ay ny cy] by unfold setV;rw [hw]];have OY:=Zh (show Ok m y from⟨hf,hok,hw⟩);have HT4:=Zh (HT3.o.next ht hb);have HB4:=Zh (HB3.o.trans hb);have Ppa4:=Zh ((hb.block pa (Qb Ppa3.o) (by have:=HT3.o.old;have:=HTs.o.zs;omega)).trans Ppa3.o);have Ux4:=Zh (Ux3.o.keep (hb.sameT HT3.o.tape (by decide)));have Ppb4:=Zh ((hb.block pb (Qb Ppb3.o) (by have:=HT3.o.old;have:=HTs.o.zs;omega)).trans Ppb3.o);have Uy4:=Zh hu;clear hf hw hok hu ht hb hS0;have hS0:=(QO HT4.o.sb).1;refine⟨_,rfl,fun _=>hS0,?_⟩;refine Zo 10 ?_;have HF:=Zh (HTs.o.two HT4.o HB4.o hpas hpbs HNE.o Ppa4.o Ppb4.o Ux4.o Uy4.o);have hne:=HNE.o;have hne2:=HNE.o.symm;obtain⟨g0,g1⟩:=Qq Ppa4.o;obtain⟨g2,g3⟩:=Qq Ppb4.o;have g4:=(Qa Ppa4.o).2 0;have g5:=(Qa Ppa4.o).2 1;have g6:=(Qa Ppb4.o).2 0;have g7:=(Qa Ppb4.o).2 1;clear hS0;refine QQ 10 none ((X4_.setCell ⟨pa,0,none⟩ (iv m)).setCell ⟨pa,1,none⟩ (.slice ax nx cx)) rfl (by kernel_rfl) ?u43 rfl ?_
       case u43=>go_simp
       refine⟨fun h=>absurd h (by decide),?_⟩;refine Zo 11 ?_;refine QQ 11 none ((((X4_.setCell ⟨pa,0,none⟩ (iv m)).setCell ⟨pa,1,none⟩ (.slice ax nx cx)).setCell ⟨pb,0,none⟩ (iv m)).setCell ⟨pb,1,none⟩ (.slice ay ny cy)) rfl (by kernel_rfl) ?u44 rfl ?_
       case u44=>go_simp
       refine⟨fun h=>absurd h (by decide),?_⟩;clear g0 g1 g2 g3 g4 g5 g6 g7 hne hne2;refine Qwa (by kernel_rfl) ?_ _;generalize hA:Act.put _ _ _=A0;simp only [Qba,Qaa,Zu,Zv,Zw] at hA;subst hA;go_wp2;go_meet
       case rel=>exact⟨_,_,_,_,_,_,rfl,rfl,OX.o,OY.o,HF.o⟩
     ·obtain⟨pb,hpb⟩:=Ze X1_.heap.size;obtain⟨X2_,hX2⟩:=Ze (X1_.alloc (.cells #[iv 0,.slice none 0 0] ST));refine Qs 9 (some 10) (.pointer (some ⟨pb,0,none⟩)) X2_ rfl (by kernel_rfl) ?u45 rfl ?_
      case u45=>rw [←hX2,←hpb];go_simp
      have hpbs:X0_.heap.size≤pb:=by have:=HB1.o.size;omega
      have HT2:=Zh (hX2▸HT1.o.al _);have HB2:=Zh (hX2▸HB1.o.alloc _);have Ppa2:=Zh (hX2▸Qz _ Ppa1.o);have HNE:=Zh (show pa≠pb by have:=Qb Ppa1.o;omega);have Ppb2:=Zh (hpb▸hX2▸heap_alloc_new X1_ (.cells #[iv 0,.slice none 0 0] ST));clear hX2 hS0 hpb;have hS0:=(QO HT2.o.sb).1;refine⟨fun _=>hS0,?_⟩;refine Zo 3 ?_;refine Qla 3 (some 36) 34 #[.pointer (some ⟨bt,0,none⟩),iv m] rfl (by kernel_rfl) (by kernel_rfl) rfl ?_;refine(Qfb m (by omega) _ HT2.o.tape).mono ?_;rintro e X3_ ⟨x,ux,rfl,hf,hw,hok,hu,ht,hb⟩;obtain⟨ax,nx,cx,rfl⟩:=hu.shape;rw [show setV x (.slice ax nx cx)=.agg #[iv m,.slice ax nx cx] by unfold setV;rw [hw]];have OX:=Zh (show Ok m x from⟨hf,hok,hw⟩);have HT3:=Zh (HT2.o.next ht hb);have HB3:=Zh (HB2.o.trans hb);have Ppa3:=Zh ((hb.block pa (Qb Ppa2.o) (by have:=HT2.o.old;have:=HTs.o.zs;omega)).trans Ppa2.o);have Ppb3:=Zh ((hb.block pb (Qb Ppb2.o) (by have:=HT2.o.old;have:=HTs.o.zs;omega)).trans Ppb2.o);have Ux3:=Zh hu;clear hf hw hok hu ht hb hS0;have hS0:=(QO HT3.o.sb).1;refine⟨_,rfl,fun _=>hS0,?_⟩;refine Zo 7 ?_;refine Qla 7 (some 40) 34 #[.pointer (some ⟨bt,0,none⟩),iv m] rfl (by kernel_rfl) (by kernel_rfl) rfl ?_;refine(Qfb m (by omega) _ HT3.o.tape).mono ?_;rintro e X4_ ⟨y,uy,rfl,hf,hw,hok,hu,ht,hb⟩;obtain⟨ay,ny,cy,rfl⟩:=hu.shape;rw [show setV y (.slice ay ny cy)=.agg #[iv m,.slice ay ny cy] by unfold setV;rw [hw]];have OY:=Zh (show Ok m y from⟨hf,hok,hw⟩);have HT4:=Zh (HT3.o.next ht hb);have HB4:=Zh (HB3.o.trans hb);have Ppa4:=Zh ((hb.block pa (Qb Ppa3.o) (by have:=HT3.o.old;have:=HTs.o.zs;omega)).trans Ppa3.o);have Ppb4:=Zh ((hb.block pb (Qb Ppb3.o) (by have:=HT3.o.old;have:=HTs.o.zs;omega)).trans Ppb3.o);have Ux4:=Zh (Ux3.o.keep (hb.sameT HT3.o.tape (by decide)));have Uy4:=Zh hu;clear hf hw hok hu ht hb hS0;have hS0:=(QO HT4.o.sb).1;refine⟨_,rfl,fun _=>hS0,?_⟩;refine Zo 10 ?_;have HF:=Zh (HTs.o.two HT4.o HB4.o hpas hpbs HNE.o Ppa4.o Ppb4.o Ux4.o Uy4.o);have hne:=HNE.o;have hne2:=HNE.o.symm;obtain⟨g0,g1⟩:=Qq Ppa4.o;obtain⟨g2,g3⟩:=Qq Ppb4.o;have g4:=(Qa Ppa4.o).2 0;have g5:=(Qa Ppa4.o).2 1;have g6:=(Qa Ppb4.o).2 0;have g7:=(Qa Ppb4.o).2 1;clear hS0;refine QQ 10 none ((X4_.setCell ⟨pa,0,none⟩ (iv m)).setCell ⟨pa,1,none⟩ (.slice ax nx cx)) rfl (by kernel_rfl) ?u48 rfl ?_
      case u48=>go_simp
      refine⟨fun h=>absurd h (by decide),?_⟩;refine Zo 11 ?_;refine QQ 11 none ((((X4_.setCell ⟨pa,0,none⟩ (iv m)).setCell ⟨pa,1,none⟩ (.slice ax nx cx)).setCell ⟨pb,0,none⟩ (iv m)).setCell ⟨pb,1,none⟩ (.slice ay ny cy)) rfl (by kernel_rfl) ?u49 rfl ?_
      case u49=>go_simp
      refine⟨fun h=>absurd h (by decide),?_⟩;clear g0 g1 g2 g3 g4 g5 g6 g7 hne hne2;refine Qwa (by kernel_rfl) ?_ _;generalize hA:Act.put _ _ _=A0;simp only [Qba,Qaa,Zu,Zv,Zw] at hA;subst hA;go_wp2;go_meet
      case rel=>exact⟨_,_,_,_,_,_,rfl,rfl,OX.o,OY.o,HF.o⟩
    ·obtain⟨pb,hpb⟩:=Ze X0_.heap.size;obtain⟨X1_,hX1⟩:=Ze (X0_.alloc (.cells #[iv 0,.slice none 0 0] ST));refine Qs 9 (some 10) (.pointer (some ⟨pb,0,none⟩)) X1_ rfl (by kernel_rfl) ?u50 rfl ?_
     case u50=>rw [←hX1,←hpb];go_simp
     have hpbs:X0_.heap.size≤pb:=by have:=HBs.o.size;omega
     have HT1:=Zh (hX1▸HTs.o.al _);have HB1:=Zh (hX1▸HBs.o.alloc _);have Ppb1:=Zh (hpb▸hX1▸heap_alloc_new X0_ (.cells #[iv 0,.slice none 0 0] ST));clear hX1 hS0 hpb;have hS0:=(QO HT1.o.sb).1;refine⟨fun _=>hS0,?_⟩;refine Qn (rs:=[3,8]) (by kernel_rfl) (by decide) ?_;intro j hj;have hj2:j=3∨j=8:=by simpa using hj
     clear hj;rcases hj2 with rfl|rfl
     ·refine Qla 3 (some 36) 34 #[.pointer (some ⟨bt,0,none⟩),iv m] rfl (by kernel_rfl) (by kernel_rfl) rfl ?_;refine(Qfb m (by omega) _ HT1.o.tape).mono ?_;rintro e X2_ ⟨x,ux,rfl,hf,hw,hok,hu,ht,hb⟩;obtain⟨ax,nx,cx,rfl⟩:=hu.shape;rw [show setV x (.slice ax nx cx)=.agg #[iv m,.slice ax nx cx] by unfold setV;rw [hw]];have OX:=Zh (show Ok m x from⟨hf,hok,hw⟩);have HT2:=Zh (HT1.o.next ht hb);have HB2:=Zh (HB1.o.trans hb);have Ppb2:=Zh ((hb.block pb (Qb Ppb1.o) (by have:=HT1.o.old;have:=HTs.o.zs;omega)).trans Ppb1.o);have Ux2:=Zh hu;clear hf hw hok hu ht hb hS0;have hS0:=(QO HT2.o.sb).1;refine⟨_,rfl,fun _=>hS0,?_⟩;refine Qn (rs:=[7,8]) (by kernel_rfl) (by decide) ?_;intro j hj;have hj2:j=7∨j=8:=by simpa using hj
      clear hj;rcases hj2 with rfl|rfl
      ·refine Qla 7 (some 40) 34 #[.pointer (some ⟨bt,0,none⟩),iv m] rfl (by kernel_rfl) (by kernel_rfl) rfl ?_;refine(Qfb m (by omega) _ HT2.o.tape).mono ?_;rintro e X3_ ⟨y,uy,rfl,hf,hw,hok,hu,ht,hb⟩;obtain⟨ay,ny,cy,rfl⟩:=hu.shape;rw [show setV y (.slice ay ny cy)=.agg #[iv m,.slice ay ny cy] by unfold setV;rw [hw]];have OY:=Zh (show Ok m y from⟨hf,hok,hw⟩);have HT3:=Zh (HT2.o.next ht hb);have HB3:=Zh (HB2.o.trans hb);have Ppb3:=Zh ((hb.block pb (Qb Ppb2.o) (by have:=HT2.o.old;have:=HTs.o.zs;omega)).trans Ppb2.o);have Ux3:=Zh (Ux2.o.keep (hb.sameT HT2.o.tape (by decide)));have Uy3:=Zh hu;clear hf hw hok hu ht hb hS0;have hS0:=(QO HT3.o.sb).1;refine⟨_,rfl,fun _=>hS0,?_⟩;refine Zo 8 ?_;obtain⟨pa,hpa⟩:=Ze X3_.heap.size;obtain⟨X4_,hX4⟩:=Ze (X3_.alloc (.cells #[iv 0,.slice none 0 0] ST));refine Qs 8 (some 9) (.pointer (some ⟨pa,0,none⟩)) X4_ rfl (by kernel_rfl) ?u53 rfl ?_
       case u53=>rw [←hX4,←hpa];go_simp
       have hpas:X0_.heap.size≤pa:=by have:=HB3.o.size;omega
       have HT4:=Zh (hX4▸HT3.o.al _);have HB4:=Zh (hX4▸HB3.o.alloc _);have Ppb4:=Zh (hX4▸Qz _ Ppb3.o);have HNE:=Zh (show pa≠pb by have:=Qb Ppb3.o;omega);have Ux4:=Zh (hX4▸Ux3.o.keep Qf.alloc);have Uy4:=Zh (hX4▸Uy3.o.keep Qf.alloc);have Ppa4:=Zh (hpa▸hX4▸heap_alloc_new X3_ (.cells #[iv 0,.slice none 0 0] ST));clear hX4 hS0 hpa;have hS0:=(QO HT4.o.sb).1;refine⟨fun _=>hS0,?_⟩;refine Zo 10 ?_;have HF:=Zh (HTs.o.two HT4.o HB4.o hpas hpbs HNE.o Ppa4.o Ppb4.o Ux4.o Uy4.o);have hne:=HNE.o;have hne2:=HNE.o.symm;obtain⟨g0,g1⟩:=Qq Ppa4.o;obtain⟨g2,g3⟩:=Qq Ppb4.o;have g4:=(Qa Ppa4.o).2 0;have g5:=(Qa Ppa4.o).2 1;have g6:=(Qa Ppb4.o).2 0;have g7:=(Qa Ppb4.o).2 1;clear hS0;refine QQ 10 none ((X4_.setCell ⟨pa,0,none⟩ (iv m)).setCell ⟨pa,1,none⟩ (.slice ax nx cx)) rfl (by kernel_rfl) ?u54 rfl ?_
       case u54=>go_simp
       refine⟨fun h=>absurd h (by decide),?_⟩;refine Zo 11 ?_;refine QQ 11 none ((((X4_.setCell ⟨pa,0,none⟩ (iv m)).setCell ⟨pa,1,none⟩ (.slice ax nx cx)).setCell ⟨pb,0,none⟩ (iv m)).setCell ⟨pb,1,none⟩ (.slice ay ny cy)) rfl (by kernel_rfl) ?u55 rfl ?_
       case u55=>go_simp
       refine⟨fun h=>absurd h (by decide),?_⟩;clear g0 g1 g2 g3 g4 g5 g6 g7 hne hne2;refine Qwa (by kernel_rfl) ?_ _;generalize hA:Act.put _ _ _=A0;simp only [Qba,Qaa,Zu,Zv,Zw] at hA;subst hA;go_wp2;go_meet
       case rel=>exact⟨_,_,_,_,_,_,rfl,rfl,OX.o,OY.o,HF.o⟩
      ·obtain⟨pa,hpa⟩:=Ze X2_.heap.size;obtain⟨X3_,hX3⟩:=Ze (X2_.alloc (.cells #[iv 0,.slice none 0 0] ST));refine Qs 8 (some 9) (.pointer (some ⟨pa,0,none⟩)) X3_ rfl (by kernel_rfl) ?u56 rfl ?_
       case u56=>rw [←hX3,←hpa];go_simp
       have hpas:X0_.heap.size≤pa:=by have:=HB2.o.size;omega
       have HT3:=Zh (hX3▸HT2.o.al _);have HB3:=Zh (hX3▸HB2.o.alloc _);have Ppb3:=Zh (hX3▸Qz _ Ppb2.o);have HNE:=Zh (show pa≠pb by have:=Qb Ppb2.o;omega);have Ux3:=Zh (hX3▸Ux2.o.keep Qf.alloc);have Ppa3:=Zh (hpa▸hX3▸heap_alloc_new X2_ (.cells #[iv 0,.slice none 0 0] ST));clear hX3 hS0 hpa;have hS0:=(QO HT3.o.sb).1;refine⟨fun _=>hS0,?_⟩;refine Zo 7 ?_;refine Qla 7 (some 40) 34 #[.pointer (some ⟨bt,0,none⟩),iv m] rfl (by kernel_rfl) (by kernel_rfl) rfl ?_;refine(Qfb m (by omega) _ HT3.o.tape).mono ?_;rintro e X4_ ⟨y,uy,rfl,hf,hw,hok,hu,ht,hb⟩;obtain⟨ay,ny,cy,rfl⟩:=hu.shape;rw [show setV y (.slice ay ny cy)=.agg #[iv m,.slice ay ny cy] by unfold setV;rw [hw]];have OY:=Zh (show Ok m y from⟨hf,hok,hw⟩);have HT4:=Zh (HT3.o.next ht hb);have HB4:=Zh (HB3.o.trans hb);have Ppb4:=Zh ((hb.block pb (Qb Ppb3.o) (by have:=HT3.o.old;have:=HTs.o.zs;omega)).trans Ppb3.o);have Ux4:=Zh (Ux3.o.keep (hb.sameT HT3.o.tape (by decide)));have Ppa4:=Zh ((hb.block pa (Qb Ppa3.o) (by have:=HT3.o.old;have:=HTs.o.zs;omega)).trans Ppa3.o);have Uy4:=Zh hu;clear hf hw hok hu ht hb hS0;have hS0:=(QO HT4.o.sb).1;refine⟨_,rfl,fun _=>hS0,?_⟩;refine Zo 10 ?_;have HF:=Zh (HTs.o.two HT4.o HB4.o hpas hpbs HNE.o Ppa4.o Ppb4.o Ux4.o Uy4.o);have hne:=HNE.o;have hne2:=HNE.o.symm;obtain⟨g0,g1⟩:=Qq Ppa4.o;obtain⟨g2,g3⟩:=Qq Ppb4.o;have g4:=(Qa Ppa4.o).2 0;have g5:=(Qa Ppa4.o).2 1;have g6:=(Qa Ppb4.o).2 0;have g7:=(Qa Ppb4.o).2 1;clear hS0;refine QQ 10 none ((X4_.setCell ⟨pa,0,none⟩ (iv m)).setCell ⟨pa,1,none⟩ (.slice ax nx cx)) rfl (by kernel_rfl) ?u58 rfl ?_
       case u58=>go_simp
       refine⟨fun h=>absurd h (by decide),?_⟩;refine Zo 11 ?_;refine QQ 11 none ((((X4_.setCell ⟨pa,0,none⟩ (iv m)).setCell ⟨pa,1,none⟩ (.slice ax nx cx)).setCell ⟨pb,0,none⟩ (iv m)).setCell ⟨pb,1,none⟩ (.slice ay ny cy)) rfl (by kernel_rfl) ?u59 rfl ?_
       case u59=>go_simp
       refine⟨fun h=>absurd h (by decide),?_⟩;clear g0 g1 g2 g3 g4 g5 g6 g7 hne hne2;refine Qwa (by kernel_rfl) ?_ _;generalize hA:Act.put _ _ _=A0;simp only [Qba,Qaa,Zu,Zv,Zw] at hA;subst hA;go_wp2;go_meet
       case rel=>exact⟨_,_,_,_,_,_,rfl,rfl,OX.o,OY.o,HF.o⟩
     ·obtain⟨pa,hpa⟩:=Ze X1_.heap.size;obtain⟨X2_,hX2⟩:=Ze (X1_.alloc (.cells #[iv 0,.slice none 0 0] ST));refine Qs 8 (some 9) (.pointer (some ⟨pa,0,none⟩)) X2_ rfl (by kernel_rfl) ?u60 rfl ?_
      case u60=>rw [←hX2,←hpa];go_simp
      have hpas:X0_.heap.size≤pa:=by have:=HB1.o.size;omega
      have HT2:=Zh (hX2▸HT1.o.al _);have HB2:=Zh (hX2▸HB1.o.alloc _);have Ppb2:=Zh (hX2▸Qz _ Ppb1.o);have HNE:=Zh (show pa≠pb by have:=Qb Ppb1.o;omega);have Ppa2:=Zh (hpa▸hX2▸heap_alloc_new X1_ (.cells #[iv 0,.slice none 0 0] ST));clear hX2 hS0 hpa;have hS0:=(QO HT2.o.sb).1;refine⟨fun _=>hS0,?_⟩;refine Zo 3 ?_;refine Qla 3 (some 36) 34 #[.pointer (some ⟨bt,0,none⟩),iv m] rfl (by kernel_rfl) (by kernel_rfl) rfl ?_;refine(Qfb m (by omega) _ HT2.o.tape).mono ?_;rintro e X3_ ⟨x,ux,rfl,hf,hw,hok,hu,ht,hb⟩;obtain⟨ax,nx,cx,rfl⟩:=hu.shape;rw [show setV x (.slice ax nx cx)=.agg #[iv m,.slice ax nx cx] by unfold setV;rw [hw]];have OX:=Zh (show Ok m x from⟨hf,hok,hw⟩);have HT3:=Zh (HT2.o.next ht hb);have HB3:=Zh (HB2.o.trans hb);have Ppb3:=Zh ((hb.block pb (Qb Ppb2.o) (by have:=HT2.o.old;have:=HTs.o.zs;omega)).trans Ppb2.o);have Ppa3:=Zh ((hb.block pa (Qb Ppa2.o) (by have:=HT2.o.old;have:=HTs.o.zs;omega)).trans Ppa2.o);have Ux3:=Zh hu;clear hf hw hok hu ht hb hS0;have hS0:=(QO HT3.o.sb).1;refine⟨_,rfl,fun _=>hS0,?_⟩;refine Zo 7 ?_;refine Qla 7 (some 40) 34 #[.pointer (some ⟨bt,0,none⟩),iv m] rfl (by kernel_rfl) (by kernel_rfl) rfl ?_;refine(Qfb m (by omega) _ HT3.o.tape).mono ?_;rintro e X4_ ⟨y,uy,rfl,hf,hw,hok,hu,ht,hb⟩;obtain⟨ay,ny,cy,rfl⟩:=hu.shape;rw [show setV y (.slice ay ny cy)=.agg #[iv m,.slice ay ny cy] by unfold setV;rw [hw]];have OY:=Zh (show Ok m y from⟨hf,hok,hw⟩);have HT4:=Zh (HT3.o.next ht hb);have HB4:=Zh (HB3.o.trans hb);have Ppb4:=Zh ((hb.block pb (Qb Ppb3.o) (by have:=HT3.o.old;have:=HTs.o.zs;omega)).trans Ppb3.o);have Ppa4:=Zh ((hb.block pa (Qb Ppa3.o) (by have:=HT3.o.old;have:=HTs.o.zs;omega)).trans Ppa3.o);have Ux4:=Zh (Ux3.o.keep (hb.sameT HT3.o.tape (by decide)));have Uy4:=Zh hu;clear hf hw hok hu ht hb hS0;have hS0:=(QO HT4.o.sb).1;refine⟨_,rfl,fun _=>hS0,?_⟩;refine Zo 10 ?_;have HF:=Zh (HTs.o.two HT4.o HB4.o hpas hpbs HNE.o Ppa4.o Ppb4.o Ux4.o Uy4.o);have hne:=HNE.o;have hne2:=HNE.o.symm;obtain⟨g0,g1⟩:=Qq Ppa4.o;obtain⟨g2,g3⟩:=Qq Ppb4.o;have g4:=(Qa Ppa4.o).2 0;have g5:=(Qa Ppa4.o).2 1;have g6:=(Qa Ppb4.o).2 0;have g7:=(Qa Ppb4.o).2 1;clear hS0;refine QQ 10 none ((X4_.setCell ⟨pa,0,none⟩ (iv m)).setCell ⟨pa,1,none⟩ (.slice ax nx cx)) rfl (by kernel_rfl) ?u63 rfl ?_
      case u63=>go_simp
      refine⟨fun h=>absurd h (by decide),?_⟩;refine Zo 11 ?_;refine QQ 11 none ((((X4_.setCell ⟨pa,0,none⟩ (iv m)).setCell ⟨pa,1,none⟩ (.slice ax nx cx)).setCell ⟨pb,0,none⟩ (iv m)).setCell ⟨pb,1,none⟩ (.slice ay ny cy)) rfl (by kernel_rfl) ?u64 rfl ?_
      case u64=>go_simp
      refine⟨fun h=>absurd h (by decide),?_⟩;clear g0 g1 g2 g3 g4 g5 g6 g7 hne hne2;refine Qwa (by kernel_rfl) ?_ _;generalize hA:Act.put _ _ _=A0;simp only [Qba,Qaa,Zu,Zv,Zw] at hA;subst hA;go_wp2;go_meet
      case rel=>exact⟨_,_,_,_,_,_,rfl,rfl,OX.o,OY.o,HF.o⟩
   case rest=>
    obtain⟨pa,pb,ux,uy,x,y,rfl,rfl,HX,HY,HG⟩:=hcut;have HQX:=Zh (HG.o.gd (pa,ux,x) (by simp));have HQY:=Zh (HG.o.gd (pb,uy,y) (by simp));obtain⟨ax,nx,cx,rfl⟩:=HQX.o.2.1.shape;obtain⟨ay,ny,cy,rfl⟩:=HQY.o.2.1.shape;obtain⟨x0,x1⟩:=Qq HQX.o.1;obtain⟨y0,y1⟩:=Qq HQY.o.1;simp only at x0 x1 y0 y1;have KUN:=Zh (show Calls Tryz.prog 35 #[.agg #[iv m,.slice ax nx cx],.agg #[iv m,.slice ay ny cy]] wc (SetE (orS x y,0) wc) by
     have h1:=Qvf x y _ _ wc HQX.o.2.1 HQY.o.2.1;rw [QAp HX.o HY.o,show setV x (.slice ax nx cx)=.agg #[iv m,.slice ax nx cx] by unfold setV;rw [HX.o.width],show setV y (.slice ay ny cy)=.agg #[iv m,.slice ay ny cy] by unfold setV;rw [HY.o.width]] at h1;exact h1)
    have HXY:=Zh (QCf HX.o HY.o).1;go_upto_region 8 with(fail)
    go_wp2_with fail;refine KUN.o.mono ?_;rintro e w3 ⟨uu,rfl,hu3,b3⟩;obtain⟨au,nu,cu,rfl⟩:=hu3.words.shape;rw [show setV (orS x y,(0:Int)).1 (.slice au nu cu)=.agg #[iv m,.slice au nu cu] by unfold setV;rw [HXY.o.width]];obtain⟨pu,hpu⟩:=Ze w3.heap.size;obtain⟨W3,hW3⟩:=Ze (w3.alloc (.cells #[iv m,.slice au nu cu] ST));have HW3:=Zh hW3;have H3:=Zh (show Th3 bt bt z m w2 W3 (.slice da n dc) (.slice ta n tc) (.slice ba n bc) (.slice aa la.length ac2) (.slice xa lb.length xc2) (.slice va lw vc2) la lb (List.zipWith orS la lb) [(pu,.slice au nu cu,orS x y),(pa,.slice ax nx cx,x),(pb,.slice ay ny cy,y)] by rw [←hW3,←hpu];exact(HG.o.below b3).alloc hu3.words);clear hu3 b3 hW3 x0 x1 y0 y1 KUN HQX HQY;go_upto_region 9 with(fail)
    rw [show w3.alloc (.cells #[iv m,.slice au nu cu] ST)=W3 from HW3.o]
    try rw [hpu]
    have hzq:Base.b≤z+1:=by have:=H3.o.zb;omega
    have hla:la.length≤16:=by have:=HL.o.1;omega
    have hlb:lb.length≤16:=by have:=HL.o.2;omega
    have LL:=Zh (show(la++[x]).length=i+1∧(lb++[y]).length=i+1 from⟨by rw [List.length_append,HL.o.1];rfl,by rw [List.length_append,HL.o.2];rfl⟩);have OO:=Zh (show(∀v∈la++[x],Ok m v)∧∀v∈lb++[y],Ok m v from⟨fun v hv=>(List.mem_append.1 hv).elim (HO.o.1 v) (fun h=>(List.mem_singleton.1 h)▸HX.o),fun v hv=>(List.mem_append.1 hv).elim (HO.o.2 v) (fun h=>(List.mem_singleton.1 h)▸HY.o)⟩);refine QK (S:=fun w'=>((((w'.cell? ⟨pa,0,none⟩=some (iv m)∧w'.cell? ⟨pa,1,none⟩=some (.slice ax nx cx))∧(w'.cell? ⟨pb,0,none⟩=some (iv m)∧w'.cell? ⟨pb,1,none⟩=some (.slice ay ny cy)))∧w'.cell? ⟨pu,0,none⟩=some (iv m))∧w'.cell? ⟨pu,1,none⟩=some (.slice au nu cu))) (st:=15) (by kernel_rfl) ?_;obtain⟨Y0_,hY0⟩:=Ze (W3.drewN 1);rw [hY0];have HTs:=Zh (show Th3 bt bt z m w2 Y0_ (.slice da n dc) (.slice ta n tc) (.slice ba n bc) (.slice aa la.length ac2) (.slice xa lb.length xc2) (.slice va lw vc2) la lb (List.zipWith orS la lb) [(pu,.slice au nu cu,orS x y),(pa,.slice ax nx cx,x),(pb,.slice ay ny cy,y)] by rw [←hY0];exact H3.o.drew 1);clear hY0 H3;have hS0:(fun w':World=>((((w'.cell? ⟨pa,0,none⟩=some (iv m)∧w'.cell? ⟨pa,1,none⟩=some (.slice ax nx cx))∧(w'.cell? ⟨pb,0,none⟩=some (iv m)∧w'.cell? ⟨pb,1,none⟩=some (.slice ay ny cy)))∧w'.cell? ⟨pu,0,none⟩=some (iv m))∧w'.cell? ⟨pu,1,none⟩=some (.slice au nu cu))) Y0_:=HTs.o.cells9 0 rfl;refine Zn 0 (some 47) ?v65 hS0 ?r65 ?t65
    case r65=>intro w hS;obtain⟨⟨⟨⟨s0,s1⟩,⟨s2,s3⟩⟩,s4⟩,s5⟩:=hS;go_simp;rfl
    refine Zn 1 (some 48) ?v66 hS0 ?r66 ?t66
    case r66=>intro w hS;obtain⟨⟨⟨⟨s0,s1⟩,⟨s2,s3⟩⟩,s4⟩,s5⟩:=hS;go_simp;rfl
    refine Zn 4 (some 51) ?v67 hS0 ?r67 ?t67
    case r67=>intro w hS;obtain⟨⟨⟨⟨s0,s1⟩,⟨s2,s3⟩⟩,s4⟩,s5⟩:=hS;go_simp;rfl
    refine Zn 5 (some 52) ?v68 hS0 ?r68 ?t68
    case r68=>intro w hS;obtain⟨⟨⟨⟨s0,s1⟩,⟨s2,s3⟩⟩,s4⟩,s5⟩:=hS;go_simp;rfl
    refine Zn 8 (some 55) ?v69 hS0 ?r69 ?t69
    case r69=>intro w hS;obtain⟨⟨⟨⟨s0,s1⟩,⟨s2,s3⟩⟩,s4⟩,s5⟩:=hS;go_simp;rfl
    refine Zn 9 (some 56) ?v70 hS0 ?r70 ?t70
    case r70=>intro w hS;obtain⟨⟨⟨⟨s0,s1⟩,⟨s2,s3⟩⟩,s4⟩,s5⟩:=hS;go_simp;rfl
    refine Qh (rs:=[2,6,10]) (by kernel_rfl) (by decide) ?_;intro j hj;have hj2:j=2∨j=6∨j=10:=by simpa using hj
    clear hj;rcases hj2 with rfl|rfl|rfl
    ·obtain⟨ex,he1⟩:=Ze Y0_.heap.size;obtain⟨Y1_,hX1⟩:=Ze (Y0_.alloc (.cells #[iv m,.slice ax nx cx] ST));refine Qs 2 (some 49) (.slice (some ⟨ex,0,none⟩) 1 1) Y1_ rfl (by kernel_rfl) ?u71 rfl ?_
     case u71=>rw [←hX1,←he1];go_simp
     have HT1:=Zh (show Th3 bt bt z m w2 Y1_ _ _ _ _ _ _ _ _ _ ((ex,.slice ax nx cx,x)::_) from HTs.o.al2 (x:=(pa,.slice ax nx cx,x)) (by simp) hX1 he1);clear hX1 he1 hS0;have hS0:=HT1.o.cells9 1 rfl;refine⟨fun _=>hS0,?_⟩;refine Qh (rs:=[3,6,10]) (by kernel_rfl) (by decide) ?_;intro j hj;have hj2:j=3∨j=6∨j=10:=by simpa using hj
     clear hj;rcases hj2 with rfl|rfl|rfl
     ·refine HT1.o.opA (x:=(ex,.slice ax nx cx,x)) (by simp) HX.o.width rfl 3 (some 50) ?_;intro g2 c2 Y2_ h;have HT2:=Zh (show Th3 bt bt z m w2 Y2_ _ _ _ _ _ _ (la++[x]) _ _ _ from h);clear h hS0;have hS0:=HT2.o.cells9 1 rfl;refine⟨fun _=>hS0,?_⟩;refine Qh (rs:=[6,10]) (by kernel_rfl) (by decide) ?_;intro j hj;have hj2:j=6∨j=10:=by simpa using hj
      clear hj;rcases hj2 with rfl|rfl
      ·obtain⟨ey,he3⟩:=Ze Y2_.heap.size;obtain⟨Y3_,hX3⟩:=Ze (Y2_.alloc (.cells #[iv m,.slice ay ny cy] ST));refine Qs 6 (some 53) (.slice (some ⟨ey,0,none⟩) 1 1) Y3_ rfl (by kernel_rfl) ?u73 rfl ?_
       case u73=>rw [←hX3,←he3];go_simp
       have HT3:=Zh (show Th3 bt bt z m w2 Y3_ _ _ _ _ _ _ _ _ _ ((ey,.slice ay ny cy,y)::_) from HT2.o.al2 (x:=(pb,.slice ay ny cy,y)) (by simp) hX3 he3);clear hX3 he3 hS0;have hS0:=HT3.o.cells9 2 rfl;refine⟨fun _=>hS0,?_⟩;refine Qh (rs:=[7,10]) (by kernel_rfl) (by decide) ?_;intro j hj;have hj2:j=7∨j=10:=by simpa using hj
       clear hj;rcases hj2 with rfl|rfl
       ·refine HT3.o.opB (x:=(ey,.slice ay ny cy,y)) (by simp) HY.o.width rfl 7 (some 54) ?_;intro g4 c4 Y4_ h;have HT4:=Zh (show Th3 bt bt z m w2 Y4_ _ _ _ _ _ _ (la++[x]) (lb++[y]) _ _ from h);clear h hS0;have hS0:=HT4.o.cells9 2 rfl;refine⟨fun _=>hS0,?_⟩;refine Zt 10 ?_;obtain⟨eu,he5⟩:=Ze Y4_.heap.size;obtain⟨Y5_,hX5⟩:=Ze (Y4_.alloc (.cells #[iv m,.slice au nu cu] ST));refine Qs 10 (some 57) (.slice (some ⟨eu,0,none⟩) 1 1) Y5_ rfl (by kernel_rfl) ?u75 rfl ?_
        case u75=>rw [←hX5,←he5];go_simp
        have HT5:=Zh (show Th3 bt bt z m w2 Y5_ _ _ _ _ _ _ _ _ _ ((eu,.slice au nu cu,orS x y)::_) from HT4.o.al2 (x:=(pu,.slice au nu cu,orS x y)) (by simp) hX5 he5);clear hX5 he5 hS0;have hS0:=HT5.o.cells9 3 rfl;refine⟨fun _=>hS0,?_⟩;refine Zt 11 ?_;refine HT5.o.opU (x:=(eu,.slice au nu cu,orS x y)) (by simp) HXY.o.width HLW.o 11 (some 58) ?_;intro g6 c6 Y6_ h;have HT6:=Zh (show Th3 bt bt z m w2 Y6_ _ _ _ _ _ _ (la++[x]) (lb++[y]) ((List.zipWith orS la lb)++[orS x y]) _ from h);clear h hS0;have hS0:=HT6.o.cells9 3 rfl;refine⟨fun _=>hS0,?_⟩;refine Zn 12 (some 5) ?v77 hS0 ?r77 ?t77
        case r77=>intro w hS;obtain⟨⟨⟨⟨s0,s1⟩,⟨s2,s3⟩⟩,s4⟩,s5⟩:=hS;go_simp;rfl
        refine Zn 13 (some 6) ?v78 hS0 ?r78 ?t78
        case r78=>intro w hS;obtain⟨⟨⟨⟨s0,s1⟩,⟨s2,s3⟩⟩,s4⟩,s5⟩:=hS;go_simp;rfl
        refine Zn 14 (some 7) ?v79 hS0 ?r79 ?t79
        case r79=>intro w hS;obtain⟨⟨⟨⟨s0,s1⟩,⟨s2,s3⟩⟩,s4⟩,s5⟩:=hS;go_simp;rfl
        refine Qu (by kernel_rfl) ?_ _;generalize hA:Act.put _ _ _=A0;simp only [Qba,Qaa,Zu,Zv,Zw] at hA;subst hA;clear hS0;have HF:=Zh (HT6.o.fin (HL.o.1.trans HL.o.2.symm));go_wp2;go_roundw
        case rel=>exact⟨i+1,_,_,by omega,by go_num,HF.o,LL.o,OO.o⟩
        case measure=>simp [intOf];omega
       ·obtain⟨eu,he4⟩:=Ze Y3_.heap.size;obtain⟨Y4_,hX4⟩:=Ze (Y3_.alloc (.cells #[iv m,.slice au nu cu] ST));refine Qs 10 (some 57) (.slice (some ⟨eu,0,none⟩) 1 1) Y4_ rfl (by kernel_rfl) ?u80 rfl ?_
        case u80=>rw [←hX4,←he4];go_simp
        have HT4:=Zh (show Th3 bt bt z m w2 Y4_ _ _ _ _ _ _ _ _ _ ((eu,.slice au nu cu,orS x y)::_) from HT3.o.al2 (x:=(pu,.slice au nu cu,orS x y)) (by simp) hX4 he4);clear hX4 he4 hS0;have hS0:=HT4.o.cells9 3 rfl;refine⟨fun _=>hS0,?_⟩;refine Zt 7 ?_;refine HT4.o.opB (x:=(ey,.slice ay ny cy,y)) (by simp) HY.o.width rfl 7 (some 54) ?_;intro g5 c5 Y5_ h;have HT5:=Zh (show Th3 bt bt z m w2 Y5_ _ _ _ _ _ _ (la++[x]) (lb++[y]) _ _ from h);clear h hS0;have hS0:=HT5.o.cells9 3 rfl;refine⟨fun _=>hS0,?_⟩;refine Zt 11 ?_;refine HT5.o.opU (x:=(eu,.slice au nu cu,orS x y)) (by simp) HXY.o.width HLW.o 11 (some 58) ?_;intro g6 c6 Y6_ h;have HT6:=Zh (show Th3 bt bt z m w2 Y6_ _ _ _ _ _ _ (la++[x]) (lb++[y]) ((List.zipWith orS la lb)++[orS x y]) _ from h);clear h hS0;have hS0:=HT6.o.cells9 3 rfl;refine⟨fun _=>hS0,?_⟩;refine Zn 12 (some 5) ?v83 hS0 ?r83 ?t83
        case r83=>intro w hS;obtain⟨⟨⟨⟨s0,s1⟩,⟨s2,s3⟩⟩,s4⟩,s5⟩:=hS;go_simp;rfl
        refine Zn 13 (some 6) ?v84 hS0 ?r84 ?t84
        case r84=>intro w hS;obtain⟨⟨⟨⟨s0,s1⟩,⟨s2,s3⟩⟩,s4⟩,s5⟩:=hS;go_simp;rfl
        refine Zn 14 (some 7) ?v85 hS0 ?r85 ?t85
        case r85=>intro w hS;obtain⟨⟨⟨⟨s0,s1⟩,⟨s2,s3⟩⟩,s4⟩,s5⟩:=hS;go_simp;rfl
        refine Qu (by kernel_rfl) ?_ _;generalize hA:Act.put _ _ _=A0;simp only [Qba,Qaa,Zu,Zv,Zw] at hA;subst hA;clear hS0;have HF:=Zh (HT6.o.fin (HL.o.1.trans HL.o.2.symm));go_wp2;go_roundw
        case rel=>exact⟨i+1,_,_,by omega,by go_num,HF.o,LL.o,OO.o⟩
        case measure=>simp [intOf];omega
      ·obtain⟨eu,he3⟩:=Ze Y2_.heap.size;obtain⟨Y3_,hX3⟩:=Ze (Y2_.alloc (.cells #[iv m,.slice au nu cu] ST));refine Qs 10 (some 57) (.slice (some ⟨eu,0,none⟩) 1 1) Y3_ rfl (by kernel_rfl) ?u86 rfl ?_
       case u86=>rw [←hX3,←he3];go_simp
       have HT3:=Zh (show Th3 bt bt z m w2 Y3_ _ _ _ _ _ _ _ _ _ ((eu,.slice au nu cu,orS x y)::_) from HT2.o.al2 (x:=(pu,.slice au nu cu,orS x y)) (by simp) hX3 he3);clear hX3 he3 hS0;have hS0:=HT3.o.cells9 2 rfl;refine⟨fun _=>hS0,?_⟩;refine Zt 6 ?_;obtain⟨ey,he4⟩:=Ze Y3_.heap.size;obtain⟨Y4_,hX4⟩:=Ze (Y3_.alloc (.cells #[iv m,.slice ay ny cy] ST));refine Qs 6 (some 53) (.slice (some ⟨ey,0,none⟩) 1 1) Y4_ rfl (by kernel_rfl) ?u87 rfl ?_
       case u87=>rw [←hX4,←he4];go_simp
       have HT4:=Zh (show Th3 bt bt z m w2 Y4_ _ _ _ _ _ _ _ _ _ ((ey,.slice ay ny cy,y)::_) from HT3.o.al2 (x:=(pb,.slice ay ny cy,y)) (by simp) hX4 he4);clear hX4 he4 hS0;have hS0:=HT4.o.cells9 3 rfl;refine⟨fun _=>hS0,?_⟩;refine Zt 7 ?_;refine HT4.o.opB (x:=(ey,.slice ay ny cy,y)) (by simp) HY.o.width rfl 7 (some 54) ?_;intro g5 c5 Y5_ h;have HT5:=Zh (show Th3 bt bt z m w2 Y5_ _ _ _ _ _ _ (la++[x]) (lb++[y]) _ _ from h);clear h hS0;have hS0:=HT5.o.cells9 3 rfl;refine⟨fun _=>hS0,?_⟩;refine Zt 11 ?_;refine HT5.o.opU (x:=(eu,.slice au nu cu,orS x y)) (by simp) HXY.o.width HLW.o 11 (some 58) ?_;intro g6 c6 Y6_ h;have HT6:=Zh (show Th3 bt bt z m w2 Y6_ _ _ _ _ _ _ (la++[x]) (lb++[y]) ((List.zipWith orS la lb)++[orS x y]) _ from h);clear h hS0;have hS0:=HT6.o.cells9 3 rfl;refine⟨fun _=>hS0,?_⟩;refine Zn 12 (some 5) ?v90 hS0 ?r90 ?t90
       case r90=>intro w hS;obtain⟨⟨⟨⟨s0,s1⟩,⟨s2,s3⟩⟩,s4⟩,s5⟩:=hS;go_simp;rfl
       refine Zn 13 (some 6) ?v91 hS0 ?r91 ?t91
       case r91=>intro w hS;obtain⟨⟨⟨⟨s0,s1⟩,⟨s2,s3⟩⟩,s4⟩,s5⟩:=hS;go_simp;rfl
       refine Zn 14 (some 7) ?v92 hS0 ?r92 ?t92
       case r92=>intro w hS;obtain⟨⟨⟨⟨s0,s1⟩,⟨s2,s3⟩⟩,s4⟩,s5⟩:=hS;go_simp;rfl
       refine Qu (by kernel_rfl) ?_ _;generalize hA:Act.put _ _ _=A0;simp only [Qba,Qaa,Zu,Zv,Zw] at hA;subst hA;clear hS0;have HF:=Zh (HT6.o.fin (HL.o.1.trans HL.o.2.symm));go_wp2;go_roundw
       case rel=>exact⟨i+1,_,_,by omega,by go_num,HF.o,LL.o,OO.o⟩
       case measure=>simp [intOf];omega
     ·obtain⟨ey,he2⟩:=Ze Y1_.heap.size;obtain⟨Y2_,hX2⟩:=Ze (Y1_.alloc (.cells #[iv m,.slice ay ny cy] ST));refine Qs 6 (some 53) (.slice (some ⟨ey,0,none⟩) 1 1) Y2_ rfl (by kernel_rfl) ?u93 rfl ?_
      case u93=>rw [←hX2,←he2];go_simp
      have HT2:=Zh (show Th3 bt bt z m w2 Y2_ _ _ _ _ _ _ _ _ _ ((ey,.slice ay ny cy,y)::_) from HT1.o.al2 (x:=(pb,.slice ay ny cy,y)) (by simp) hX2 he2);clear hX2 he2 hS0;have hS0:=HT2.o.cells9 2 rfl;refine⟨fun _=>hS0,?_⟩;refine Qh (rs:=[3,10]) (by kernel_rfl) (by decide) ?_;intro j hj;have hj2:j=3∨j=10:=by simpa using hj
      clear hj;rcases hj2 with rfl|rfl
      ·refine HT2.o.opA (x:=(ex,.slice ax nx cx,x)) (by simp) HX.o.width rfl 3 (some 50) ?_;intro g3 c3 Y3_ h;have HT3:=Zh (show Th3 bt bt z m w2 Y3_ _ _ _ _ _ _ (la++[x]) _ _ _ from h);clear h hS0;have hS0:=HT3.o.cells9 2 rfl;refine⟨fun _=>hS0,?_⟩;refine Qh (rs:=[7,10]) (by kernel_rfl) (by decide) ?_;intro j hj;have hj2:j=7∨j=10:=by simpa using hj
       clear hj;rcases hj2 with rfl|rfl
       ·refine HT3.o.opB (x:=(ey,.slice ay ny cy,y)) (by simp) HY.o.width rfl 7 (some 54) ?_;intro g4 c4 Y4_ h;have HT4:=Zh (show Th3 bt bt z m w2 Y4_ _ _ _ _ _ _ (la++[x]) (lb++[y]) _ _ from h);clear h hS0;have hS0:=HT4.o.cells9 2 rfl;refine⟨fun _=>hS0,?_⟩;refine Zt 10 ?_;obtain⟨eu,he5⟩:=Ze Y4_.heap.size;obtain⟨Y5_,hX5⟩:=Ze (Y4_.alloc (.cells #[iv m,.slice au nu cu] ST));refine Qs 10 (some 57) (.slice (some ⟨eu,0,none⟩) 1 1) Y5_ rfl (by kernel_rfl) ?u96 rfl ?_
        case u96=>rw [←hX5,←he5];go_simp
        have HT5:=Zh (show Th3 bt bt z m w2 Y5_ _ _ _ _ _ _ _ _ _ ((eu,.slice au nu cu,orS x y)::_) from HT4.o.al2 (x:=(pu,.slice au nu cu,orS x y)) (by simp) hX5 he5);clear hX5 he5 hS0;have hS0:=HT5.o.cells9 3 rfl;refine⟨fun _=>hS0,?_⟩;refine Zt 11 ?_;refine HT5.o.opU (x:=(eu,.slice au nu cu,orS x y)) (by simp) HXY.o.width HLW.o 11 (some 58) ?_;intro g6 c6 Y6_ h;have HT6:=Zh (show Th3 bt bt z m w2 Y6_ _ _ _ _ _ _ (la++[x]) (lb++[y]) ((List.zipWith orS la lb)++[orS x y]) _ from h);clear h hS0;have hS0:=HT6.o.cells9 3 rfl;refine⟨fun _=>hS0,?_⟩;refine Zn 12 (some 5) ?v98 hS0 ?r98 ?t98
        case r98=>intro w hS;obtain⟨⟨⟨⟨s0,s1⟩,⟨s2,s3⟩⟩,s4⟩,s5⟩:=hS;go_simp;rfl
        refine Zn 13 (some 6) ?v99 hS0 ?r99 ?t99
        case r99=>intro w hS;obtain⟨⟨⟨⟨s0,s1⟩,⟨s2,s3⟩⟩,s4⟩,s5⟩:=hS;go_simp;rfl
        refine Zn 14 (some 7) ?v100 hS0 ?r100 ?t100
        case r100=>intro w hS;obtain⟨⟨⟨⟨s0,s1⟩,⟨s2,s3⟩⟩,s4⟩,s5⟩:=hS;go_simp;rfl
        refine Qu (by kernel_rfl) ?_ _;generalize hA:Act.put _ _ _=A0;simp only [Qba,Qaa,Zu,Zv,Zw] at hA;subst hA;clear hS0;have HF:=Zh (HT6.o.fin (HL.o.1.trans HL.o.2.symm));go_wp2;go_roundw
        case rel=>exact⟨i+1,_,_,by omega,by go_num,HF.o,LL.o,OO.o⟩
        case measure=>simp [intOf];omega
       ·obtain⟨eu,he4⟩:=Ze Y3_.heap.size;obtain⟨Y4_,hX4⟩:=Ze (Y3_.alloc (.cells #[iv m,.slice au nu cu] ST));refine Qs 10 (some 57) (.slice (some ⟨eu,0,none⟩) 1 1) Y4_ rfl (by kernel_rfl) ?u101 rfl ?_
        case u101=>rw [←hX4,←he4];go_simp
        have HT4:=Zh (show Th3 bt bt z m w2 Y4_ _ _ _ _ _ _ _ _ _ ((eu,.slice au nu cu,orS x y)::_) from HT3.o.al2 (x:=(pu,.slice au nu cu,orS x y)) (by simp) hX4 he4);clear hX4 he4 hS0;have hS0:=HT4.o.cells9 3 rfl;refine⟨fun _=>hS0,?_⟩;refine Zt 7 ?_;refine HT4.o.opB (x:=(ey,.slice ay ny cy,y)) (by simp) HY.o.width rfl 7 (some 54) ?_;intro g5 c5 Y5_ h;have HT5:=Zh (show Th3 bt bt z m w2 Y5_ _ _ _ _ _ _ (la++[x]) (lb++[y]) _ _ from h);clear h hS0;have hS0:=HT5.o.cells9 3 rfl;refine⟨fun _=>hS0,?_⟩;refine Zt 11 ?_;refine HT5.o.opU (x:=(eu,.slice au nu cu,orS x y)) (by simp) HXY.o.width HLW.o 11 (some 58) ?_;intro g6 c6 Y6_ h;have HT6:=Zh (show Th3 bt bt z m w2 Y6_ _ _ _ _ _ _ (la++[x]) (lb++[y]) ((List.zipWith orS la lb)++[orS x y]) _ from h);clear h hS0;have hS0:=HT6.o.cells9 3 rfl;refine⟨fun _=>hS0,?_⟩;refine Zn 12 (some 5) ?v104 hS0 ?r104 ?t104
        case r104=>intro w hS;obtain⟨⟨⟨⟨s0,s1⟩,⟨s2,s3⟩⟩,s4⟩,s5⟩:=hS;go_simp;rfl
        refine Zn 13 (some 6) ?v105 hS0 ?r105 ?t105
        case r105=>intro w hS;obtain⟨⟨⟨⟨s0,s1⟩,⟨s2,s3⟩⟩,s4⟩,s5⟩:=hS;go_simp;rfl
        refine Zn 14 (some 7) ?v106 hS0 ?r106 ?t106
        case r106=>intro w hS;obtain⟨⟨⟨⟨s0,s1⟩,⟨s2,s3⟩⟩,s4⟩,s5⟩:=hS;go_simp;rfl
        refine Qu (by kernel_rfl) ?_ _;generalize hA:Act.put _ _ _=A0;simp only [Qba,Qaa,Zu,Zv,Zw] at hA;subst hA;clear hS0;have HF:=Zh (HT6.o.fin (HL.o.1.trans HL.o.2.symm));go_wp2;go_roundw
        case rel=>exact⟨i+1,_,_,by omega,by go_num,HF.o,LL.o,OO.o⟩
        case measure=>simp [intOf];omega
      ·obtain⟨eu,he3⟩:=Ze Y2_.heap.size;obtain⟨Y3_,hX3⟩:=Ze (Y2_.alloc (.cells #[iv m,.slice au nu cu] ST));refine Qs 10 (some 57) (.slice (some ⟨eu,0,none⟩) 1 1) Y3_ rfl (by kernel_rfl) ?u107 rfl ?_
       case u107=>rw [←hX3,←he3];go_simp
       have HT3:=Zh (show Th3 bt bt z m w2 Y3_ _ _ _ _ _ _ _ _ _ ((eu,.slice au nu cu,orS x y)::_) from HT2.o.al2 (x:=(pu,.slice au nu cu,orS x y)) (by simp) hX3 he3);clear hX3 he3 hS0;have hS0:=HT3.o.cells9 3 rfl;refine⟨fun _=>hS0,?_⟩;refine Zt 3 ?_;refine HT3.o.opA (x:=(ex,.slice ax nx cx,x)) (by simp) HX.o.width rfl 3 (some 50) ?_;intro g4 c4 Y4_ h;have HT4:=Zh (show Th3 bt bt z m w2 Y4_ _ _ _ _ _ _ (la++[x]) _ _ _ from h);clear h hS0;have hS0:=HT4.o.cells9 3 rfl;refine⟨fun _=>hS0,?_⟩;refine Zt 7 ?_;refine HT4.o.opB (x:=(ey,.slice ay ny cy,y)) (by simp) HY.o.width rfl 7 (some 54) ?_;intro g5 c5 Y5_ h;have HT5:=Zh (show Th3 bt bt z m w2 Y5_ _ _ _ _ _ _ (la++[x]) (lb++[y]) _ _ from h);clear h hS0;have hS0:=HT5.o.cells9 3 rfl;refine⟨fun _=>hS0,?_⟩;refine Zt 11 ?_;refine HT5.o.opU (x:=(eu,.slice au nu cu,orS x y)) (by simp) HXY.o.width HLW.o 11 (some 58) ?_;intro g6 c6 Y6_ h;have HT6:=Zh (show Th3 bt bt z m w2 Y6_ _ _ _ _ _ _ (la++[x]) (lb++[y]) ((List.zipWith orS la lb)++[orS x y]) _ from h);clear h hS0;have hS0:=HT6.o.cells9 3 rfl;refine⟨fun _=>hS0,?_⟩;refine Zn 12 (some 5) ?v111 hS0 ?r111 ?t111
       case r111=>intro w hS;obtain⟨⟨⟨⟨s0,s1⟩,⟨s2,s3⟩⟩,s4⟩,s5⟩:=hS;go_simp;rfl
       refine Zn 13 (some 6) ?v112 hS0 ?r112 ?t112
       case r112=>intro w hS;obtain⟨⟨⟨⟨s0,s1⟩,⟨s2,s3⟩⟩,s4⟩,s5⟩:=hS;go_simp;rfl
       refine Zn 14 (some 7) ?v113 hS0 ?r113 ?t113
       case r113=>intro w hS;obtain⟨⟨⟨⟨s0,s1⟩,⟨s2,s3⟩⟩,s4⟩,s5⟩:=hS;go_simp;rfl
       refine Qu (by kernel_rfl) ?_ _;generalize hA:Act.put _ _ _=A0;simp only [Qba,Qaa,Zu,Zv,Zw] at hA;subst hA;clear hS0;have HF:=Zh (HT6.o.fin (HL.o.1.trans HL.o.2.symm));go_wp2;go_roundw
       case rel=>exact⟨i+1,_,_,by omega,by go_num,HF.o,LL.o,OO.o⟩
       case measure=>simp [intOf];omega
     ·obtain⟨eu,he2⟩:=Ze Y1_.heap.size;obtain⟨Y2_,hX2⟩:=Ze (Y1_.alloc (.cells #[iv m,.slice au nu cu] ST));refine Qs 10 (some 57) (.slice (some ⟨eu,0,none⟩) 1 1) Y2_ rfl (by kernel_rfl) ?u114 rfl ?_
      case u114=>rw [←hX2,←he2];go_simp
      have HT2:=Zh (show Th3 bt bt z m w2 Y2_ _ _ _ _ _ _ _ _ _ ((eu,.slice au nu cu,orS x y)::_) from HT1.o.al2 (x:=(pu,.slice au nu cu,orS x y)) (by simp) hX2 he2);clear hX2 he2 hS0;have hS0:=HT2.o.cells9 2 rfl;refine⟨fun _=>hS0,?_⟩;refine Qh (rs:=[3,6]) (by kernel_rfl) (by decide) ?_;intro j hj;have hj2:j=3∨j=6:=by simpa using hj
      clear hj;rcases hj2 with rfl|rfl
      ·refine HT2.o.opA (x:=(ex,.slice ax nx cx,x)) (by simp) HX.o.width rfl 3 (some 50) ?_;intro g3 c3 Y3_ h;have HT3:=Zh (show Th3 bt bt z m w2 Y3_ _ _ _ _ _ _ (la++[x]) _ _ _ from h);clear h hS0;have hS0:=HT3.o.cells9 2 rfl;refine⟨fun _=>hS0,?_⟩;refine Zt 6 ?_;obtain⟨ey,he4⟩:=Ze Y3_.heap.size;obtain⟨Y4_,hX4⟩:=Ze (Y3_.alloc (.cells #[iv m,.slice ay ny cy] ST));refine Qs 6 (some 53) (.slice (some ⟨ey,0,none⟩) 1 1) Y4_ rfl (by kernel_rfl) ?u116 rfl ?_
       case u116=>rw [←hX4,←he4];go_simp
       have HT4:=Zh (show Th3 bt bt z m w2 Y4_ _ _ _ _ _ _ _ _ _ ((ey,.slice ay ny cy,y)::_) from HT3.o.al2 (x:=(pb,.slice ay ny cy,y)) (by simp) hX4 he4);clear hX4 he4 hS0;have hS0:=HT4.o.cells9 3 rfl;refine⟨fun _=>hS0,?_⟩;refine Zt 7 ?_;refine HT4.o.opB (x:=(ey,.slice ay ny cy,y)) (by simp) HY.o.width rfl 7 (some 54) ?_;intro g5 c5 Y5_ h;have HT5:=Zh (show Th3 bt bt z m w2 Y5_ _ _ _ _ _ _ (la++[x]) (lb++[y]) _ _ from h);clear h hS0;have hS0:=HT5.o.cells9 3 rfl;refine⟨fun _=>hS0,?_⟩;refine Zt 11 ?_;refine HT5.o.opU (x:=(eu,.slice au nu cu,orS x y)) (by simp) HXY.o.width HLW.o 11 (some 58) ?_;intro g6 c6 Y6_ h;have HT6:=Zh (show Th3 bt bt z m w2 Y6_ _ _ _ _ _ _ (la++[x]) (lb++[y]) ((List.zipWith orS la lb)++[orS x y]) _ from h);clear h hS0;have hS0:=HT6.o.cells9 3 rfl;refine⟨fun _=>hS0,?_⟩;refine Zn 12 (some 5) ?v119 hS0 ?r119 ?t119
       case r119=>intro w hS;obtain⟨⟨⟨⟨s0,s1⟩,⟨s2,s3⟩⟩,s4⟩,s5⟩:=hS;go_simp;rfl
       refine Zn 13 (some 6) ?v120 hS0 ?r120 ?t120
       case r120=>intro w hS;obtain⟨⟨⟨⟨s0,s1⟩,⟨s2,s3⟩⟩,s4⟩,s5⟩:=hS;go_simp;rfl
       refine Zn 14 (some 7) ?v121 hS0 ?r121 ?t121
       case r121=>intro w hS;obtain⟨⟨⟨⟨s0,s1⟩,⟨s2,s3⟩⟩,s4⟩,s5⟩:=hS;go_simp;rfl
       refine Qu (by kernel_rfl) ?_ _;generalize hA:Act.put _ _ _=A0;simp only [Qba,Qaa,Zu,Zv,Zw] at hA;subst hA;clear hS0;have HF:=Zh (HT6.o.fin (HL.o.1.trans HL.o.2.symm));go_wp2;go_roundw
       case rel=>exact⟨i+1,_,_,by omega,by go_num,HF.o,LL.o,OO.o⟩
       case measure=>simp [intOf];omega
      ·obtain⟨ey,he3⟩:=Ze Y2_.heap.size;obtain⟨Y3_,hX3⟩:=Ze (Y2_.alloc (.cells #[iv m,.slice ay ny cy] ST));refine Qs 6 (some 53) (.slice (some ⟨ey,0,none⟩) 1 1) Y3_ rfl (by kernel_rfl) ?u122 rfl ?_
       case u122=>rw [←hX3,←he3];go_simp
       have HT3:=Zh (show Th3 bt bt z m w2 Y3_ _ _ _ _ _ _ _ _ _ ((ey,.slice ay ny cy,y)::_) from HT2.o.al2 (x:=(pb,.slice ay ny cy,y)) (by simp) hX3 he3);clear hX3 he3 hS0;have hS0:=HT3.o.cells9 3 rfl;refine⟨fun _=>hS0,?_⟩;refine Zt 3 ?_;refine HT3.o.opA (x:=(ex,.slice ax nx cx,x)) (by simp) HX.o.width rfl 3 (some 50) ?_;intro g4 c4 Y4_ h;have HT4:=Zh (show Th3 bt bt z m w2 Y4_ _ _ _ _ _ _ (la++[x]) _ _ _ from h);clear h hS0;have hS0:=HT4.o.cells9 3 rfl;refine⟨fun _=>hS0,?_⟩;refine Zt 7 ?_;refine HT4.o.opB (x:=(ey,.slice ay ny cy,y)) (by simp) HY.o.width rfl 7 (some 54) ?_;intro g5 c5 Y5_ h;have HT5:=Zh (show Th3 bt bt z m w2 Y5_ _ _ _ _ _ _ (la++[x]) (lb++[y]) _ _ from h);clear h hS0;have hS0:=HT5.o.cells9 3 rfl;refine⟨fun _=>hS0,?_⟩;refine Zt 11 ?_;refine HT5.o.opU (x:=(eu,.slice au nu cu,orS x y)) (by simp) HXY.o.width HLW.o 11 (some 58) ?_;intro g6 c6 Y6_ h;have HT6:=Zh (show Th3 bt bt z m w2 Y6_ _ _ _ _ _ _ (la++[x]) (lb++[y]) ((List.zipWith orS la lb)++[orS x y]) _ from h);clear h hS0;have hS0:=HT6.o.cells9 3 rfl;refine⟨fun _=>hS0,?_⟩;refine Zn 12 (some 5) ?v126 hS0 ?r126 ?t126
       case r126=>intro w hS;obtain⟨⟨⟨⟨s0,s1⟩,⟨s2,s3⟩⟩,s4⟩,s5⟩:=hS;go_simp;rfl
       refine Zn 13 (some 6) ?v127 hS0 ?r127 ?t127
       case r127=>intro w hS;obtain⟨⟨⟨⟨s0,s1⟩,⟨s2,s3⟩⟩,s4⟩,s5⟩:=hS;go_simp;rfl
       refine Zn 14 (some 7) ?v128 hS0 ?r128 ?t128
       case r128=>intro w hS;obtain⟨⟨⟨⟨s0,s1⟩,⟨s2,s3⟩⟩,s4⟩,s5⟩:=hS;go_simp;rfl
       refine Qu (by kernel_rfl) ?_ _;generalize hA:Act.put _ _ _=A0;simp only [Qba,Qaa,Zu,Zv,Zw] at hA;subst hA;clear hS0;have HF:=Zh (HT6.o.fin (HL.o.1.trans HL.o.2.symm));go_wp2;go_roundw
       case rel=>exact⟨i+1,_,_,by omega,by go_num,HF.o,LL.o,OO.o⟩
       case measure=>simp [intOf];omega
    ·obtain⟨ey,he1⟩:=Ze Y0_.heap.size;obtain⟨Y1_,hX1⟩:=Ze (Y0_.alloc (.cells #[iv m,.slice ay ny cy] ST));refine Qs 6 (some 53) (.slice (some ⟨ey,0,none⟩) 1 1) Y1_ rfl (by kernel_rfl) ?u129 rfl ?_
     case u129=>rw [←hX1,←he1];go_simp
     have HT1:=Zh (show Th3 bt bt z m w2 Y1_ _ _ _ _ _ _ _ _ _ ((ey,.slice ay ny cy,y)::_) from HTs.o.al2 (x:=(pb,.slice ay ny cy,y)) (by simp) hX1 he1);clear hX1 he1 hS0;have hS0:=HT1.o.cells9 1 rfl;refine⟨fun _=>hS0,?_⟩;refine Qh (rs:=[2,10]) (by kernel_rfl) (by decide) ?_;intro j hj;have hj2:j=2∨j=10:=by simpa using hj
     clear hj;rcases hj2 with rfl|rfl
     ·obtain⟨ex,he2⟩:=Ze Y1_.heap.size;obtain⟨Y2_,hX2⟩:=Ze (Y1_.alloc (.cells #[iv m,.slice ax nx cx] ST));refine Qs 2 (some 49) (.slice (some ⟨ex,0,none⟩) 1 1) Y2_ rfl (by kernel_rfl) ?u130 rfl ?_
      case u130=>rw [←hX2,←he2];go_simp
      have HT2:=Zh (show Th3 bt bt z m w2 Y2_ _ _ _ _ _ _ _ _ _ ((ex,.slice ax nx cx,x)::_) from HT1.o.al2 (x:=(pa,.slice ax nx cx,x)) (by simp) hX2 he2);clear hX2 he2 hS0;have hS0:=HT2.o.cells9 2 rfl;refine⟨fun _=>hS0,?_⟩;refine Qh (rs:=[3,10]) (by kernel_rfl) (by decide) ?_;intro j hj;have hj2:j=3∨j=10:=by simpa using hj
      clear hj;rcases hj2 with rfl|rfl
      ·refine HT2.o.opA (x:=(ex,.slice ax nx cx,x)) (by simp) HX.o.width rfl 3 (some 50) ?_;intro g3 c3 Y3_ h;have HT3:=Zh (show Th3 bt bt z m w2 Y3_ _ _ _ _ _ _ (la++[x]) _ _ _ from h);clear h hS0;have hS0:=HT3.o.cells9 2 rfl;refine⟨fun _=>hS0,?_⟩;refine Qh (rs:=[7,10]) (by kernel_rfl) (by decide) ?_;intro j hj;have hj2:j=7∨j=10:=by simpa using hj
       clear hj;rcases hj2 with rfl|rfl
       ·refine HT3.o.opB (x:=(ey,.slice ay ny cy,y)) (by simp) HY.o.width rfl 7 (some 54) ?_;intro g4 c4 Y4_ h;have HT4:=Zh (show Th3 bt bt z m w2 Y4_ _ _ _ _ _ _ (la++[x]) (lb++[y]) _ _ from h);clear h hS0;have hS0:=HT4.o.cells9 2 rfl;refine⟨fun _=>hS0,?_⟩;refine Zt 10 ?_;obtain⟨eu,he5⟩:=Ze Y4_.heap.size;obtain⟨Y5_,hX5⟩:=Ze (Y4_.alloc (.cells #[iv m,.slice au nu cu] ST));refine Qs 10 (some 57) (.slice (some ⟨eu,0,none⟩) 1 1) Y5_ rfl (by kernel_rfl) ?u133 rfl ?_
        case u133=>rw [←hX5,←he5];go_simp
        have HT5:=Zh (show Th3 bt bt z m w2 Y5_ _ _ _ _ _ _ _ _ _ ((eu,.slice au nu cu,orS x y)::_) from HT4.o.al2 (x:=(pu,.slice au nu cu,orS x y)) (by simp) hX5 he5);clear hX5 he5 hS0;have hS0:=HT5.o.cells9 3 rfl;refine⟨fun _=>hS0,?_⟩;refine Zt 11 ?_;refine HT5.o.opU (x:=(eu,.slice au nu cu,orS x y)) (by simp) HXY.o.width HLW.o 11 (some 58) ?_;intro g6 c6 Y6_ h;have HT6:=Zh (show Th3 bt bt z m w2 Y6_ _ _ _ _ _ _ (la++[x]) (lb++[y]) ((List.zipWith orS la lb)++[orS x y]) _ from h);clear h hS0;have hS0:=HT6.o.cells9 3 rfl;refine⟨fun _=>hS0,?_⟩;refine Zn 12 (some 5) ?v135 hS0 ?r135 ?t135
        case r135=>intro w hS;obtain⟨⟨⟨⟨s0,s1⟩,⟨s2,s3⟩⟩,s4⟩,s5⟩:=hS;go_simp;rfl
        refine Zn 13 (some 6) ?v136 hS0 ?r136 ?t136
        case r136=>intro w hS;obtain⟨⟨⟨⟨s0,s1⟩,⟨s2,s3⟩⟩,s4⟩,s5⟩:=hS;go_simp;rfl
        refine Zn 14 (some 7) ?v137 hS0 ?r137 ?t137
        case r137=>intro w hS;obtain⟨⟨⟨⟨s0,s1⟩,⟨s2,s3⟩⟩,s4⟩,s5⟩:=hS;go_simp;rfl
        refine Qu (by kernel_rfl) ?_ _;generalize hA:Act.put _ _ _=A0;simp only [Qba,Qaa,Zu,Zv,Zw] at hA;subst hA;clear hS0;have HF:=Zh (HT6.o.fin (HL.o.1.trans HL.o.2.symm));go_wp2;go_roundw
        case rel=>exact⟨i+1,_,_,by omega,by go_num,HF.o,LL.o,OO.o⟩
        case measure=>simp [intOf];omega
       ·obtain⟨eu,he4⟩:=Ze Y3_.heap.size;obtain⟨Y4_,hX4⟩:=Ze (Y3_.alloc (.cells #[iv m,.slice au nu cu] ST));refine Qs 10 (some 57) (.slice (some ⟨eu,0,none⟩) 1 1) Y4_ rfl (by kernel_rfl) ?u138 rfl ?_
        case u138=>rw [←hX4,←he4];go_simp
        have HT4:=Zh (show Th3 bt bt z m w2 Y4_ _ _ _ _ _ _ _ _ _ ((eu,.slice au nu cu,orS x y)::_) from HT3.o.al2 (x:=(pu,.slice au nu cu,orS x y)) (by simp) hX4 he4);clear hX4 he4 hS0;have hS0:=HT4.o.cells9 3 rfl;refine⟨fun _=>hS0,?_⟩;refine Zt 7 ?_;refine HT4.o.opB (x:=(ey,.slice ay ny cy,y)) (by simp) HY.o.width rfl 7 (some 54) ?_;intro g5 c5 Y5_ h;have HT5:=Zh (show Th3 bt bt z m w2 Y5_ _ _ _ _ _ _ (la++[x]) (lb++[y]) _ _ from h);clear h hS0;have hS0:=HT5.o.cells9 3 rfl;refine⟨fun _=>hS0,?_⟩;refine Zt 11 ?_;refine HT5.o.opU (x:=(eu,.slice au nu cu,orS x y)) (by simp) HXY.o.width HLW.o 11 (some 58) ?_;intro g6 c6 Y6_ h;have HT6:=Zh (show Th3 bt bt z m w2 Y6_ _ _ _ _ _ _ (la++[x]) (lb++[y]) ((List.zipWith orS la lb)++[orS x y]) _ from h);clear h hS0;have hS0:=HT6.o.cells9 3 rfl;refine⟨fun _=>hS0,?_⟩;refine Zn 12 (some 5) ?v141 hS0 ?r141 ?t141
        case r141=>intro w hS;obtain⟨⟨⟨⟨s0,s1⟩,⟨s2,s3⟩⟩,s4⟩,s5⟩:=hS;go_simp;rfl
        refine Zn 13 (some 6) ?v142 hS0 ?r142 ?t142
        case r142=>intro w hS;obtain⟨⟨⟨⟨s0,s1⟩,⟨s2,s3⟩⟩,s4⟩,s5⟩:=hS;go_simp;rfl
        refine Zn 14 (some 7) ?v143 hS0 ?r143 ?t143
        case r143=>intro w hS;obtain⟨⟨⟨⟨s0,s1⟩,⟨s2,s3⟩⟩,s4⟩,s5⟩:=hS;go_simp;rfl
        refine Qu (by kernel_rfl) ?_ _;generalize hA:Act.put _ _ _=A0;simp only [Qba,Qaa,Zu,Zv,Zw] at hA;subst hA;clear hS0;have HF:=Zh (HT6.o.fin (HL.o.1.trans HL.o.2.symm));go_wp2;go_roundw
        case rel=>exact⟨i+1,_,_,by omega,by go_num,HF.o,LL.o,OO.o⟩
        case measure=>simp [intOf];omega
      ·obtain⟨eu,he3⟩:=Ze Y2_.heap.size;obtain⟨Y3_,hX3⟩:=Ze (Y2_.alloc (.cells #[iv m,.slice au nu cu] ST));refine Qs 10 (some 57) (.slice (some ⟨eu,0,none⟩) 1 1) Y3_ rfl (by kernel_rfl) ?u144 rfl ?_
       case u144=>rw [←hX3,←he3];go_simp
       have HT3:=Zh (show Th3 bt bt z m w2 Y3_ _ _ _ _ _ _ _ _ _ ((eu,.slice au nu cu,orS x y)::_) from HT2.o.al2 (x:=(pu,.slice au nu cu,orS x y)) (by simp) hX3 he3);clear hX3 he3 hS0;have hS0:=HT3.o.cells9 3 rfl;refine⟨fun _=>hS0,?_⟩;refine Zt 3 ?_;refine HT3.o.opA (x:=(ex,.slice ax nx cx,x)) (by simp) HX.o.width rfl 3 (some 50) ?_;intro g4 c4 Y4_ h;have HT4:=Zh (show Th3 bt bt z m w2 Y4_ _ _ _ _ _ _ (la++[x]) _ _ _ from h);clear h hS0;have hS0:=HT4.o.cells9 3 rfl;refine⟨fun _=>hS0,?_⟩;refine Zt 7 ?_;refine HT4.o.opB (x:=(ey,.slice ay ny cy,y)) (by simp) HY.o.width rfl 7 (some 54) ?_;intro g5 c5 Y5_ h;have HT5:=Zh (show Th3 bt bt z m w2 Y5_ _ _ _ _ _ _ (la++[x]) (lb++[y]) _ _ from h);clear h hS0;have hS0:=HT5.o.cells9 3 rfl;refine⟨fun _=>hS0,?_⟩;refine Zt 11 ?_;refine HT5.o.opU (x:=(eu,.slice au nu cu,orS x y)) (by simp) HXY.o.width HLW.o 11 (some 58) ?_;intro g6 c6 Y6_ h;have HT6:=Zh (show Th3 bt bt z m w2 Y6_ _ _ _ _ _ _ (la++[x]) (lb++[y]) ((List.zipWith orS la lb)++[orS x y]) _ from h);clear h hS0;have hS0:=HT6.o.cells9 3 rfl;refine⟨fun _=>hS0,?_⟩;refine Zn 12 (some 5) ?v148 hS0 ?r148 ?t148
       case r148=>intro w hS;obtain⟨⟨⟨⟨s0,s1⟩,⟨s2,s3⟩⟩,s4⟩,s5⟩:=hS;go_simp;rfl
       refine Zn 13 (some 6) ?v149 hS0 ?r149 ?t149
       case r149=>intro w hS;obtain⟨⟨⟨⟨s0,s1⟩,⟨s2,s3⟩⟩,s4⟩,s5⟩:=hS;go_simp;rfl
       refine Zn 14 (some 7) ?v150 hS0 ?r150 ?t150
       case r150=>intro w hS;obtain⟨⟨⟨⟨s0,s1⟩,⟨s2,s3⟩⟩,s4⟩,s5⟩:=hS;go_simp;rfl
       refine Qu (by kernel_rfl) ?_ _;generalize hA:Act.put _ _ _=A0;simp only [Qba,Qaa,Zu,Zv,Zw] at hA;subst hA;clear hS0;have HF:=Zh (HT6.o.fin (HL.o.1.trans HL.o.2.symm));go_wp2;go_roundw
       case rel=>exact⟨i+1,_,_,by omega,by go_num,HF.o,LL.o,OO.o⟩
       case measure=>simp [intOf];omega
     ·obtain⟨eu,he2⟩:=Ze Y1_.heap.size;obtain⟨Y2_,hX2⟩:=Ze (Y1_.alloc (.cells #[iv m,.slice au nu cu] ST));refine Qs 10 (some 57) (.slice (some ⟨eu,0,none⟩) 1 1) Y2_ rfl (by kernel_rfl) ?u151 rfl ?_
      case u151=>rw [←hX2,←he2];go_simp
      have HT2:=Zh (show Th3 bt bt z m w2 Y2_ _ _ _ _ _ _ _ _ _ ((eu,.slice au nu cu,orS x y)::_) from HT1.o.al2 (x:=(pu,.slice au nu cu,orS x y)) (by simp) hX2 he2);clear hX2 he2 hS0;have hS0:=HT2.o.cells9 2 rfl;refine⟨fun _=>hS0,?_⟩;refine Zt 2 ?_;obtain⟨ex,he3⟩:=Ze Y2_.heap.size;obtain⟨Y3_,hX3⟩:=Ze (Y2_.alloc (.cells #[iv m,.slice ax nx cx] ST));refine Qs 2 (some 49) (.slice (some ⟨ex,0,none⟩) 1 1) Y3_ rfl (by kernel_rfl) ?u152 rfl ?_
      case u152=>rw [←hX3,←he3];go_simp
      have HT3:=Zh (show Th3 bt bt z m w2 Y3_ _ _ _ _ _ _ _ _ _ ((ex,.slice ax nx cx,x)::_) from HT2.o.al2 (x:=(pa,.slice ax nx cx,x)) (by simp) hX3 he3);clear hX3 he3 hS0;have hS0:=HT3.o.cells9 3 rfl;refine⟨fun _=>hS0,?_⟩;refine Zt 3 ?_;refine HT3.o.opA (x:=(ex,.slice ax nx cx,x)) (by simp) HX.o.width rfl 3 (some 50) ?_;intro g4 c4 Y4_ h;have HT4:=Zh (show Th3 bt bt z m w2 Y4_ _ _ _ _ _ _ (la++[x]) _ _ _ from h);clear h hS0;have hS0:=HT4.o.cells9 3 rfl;refine⟨fun _=>hS0,?_⟩;refine Zt 7 ?_;refine HT4.o.opB (x:=(ey,.slice ay ny cy,y)) (by simp) HY.o.width rfl 7 (some 54) ?_;intro g5 c5 Y5_ h;have HT5:=Zh (show Th3 bt bt z m w2 Y5_ _ _ _ _ _ _ (la++[x]) (lb++[y]) _ _ from h);clear h hS0;have hS0:=HT5.o.cells9 3 rfl;refine⟨fun _=>hS0,?_⟩;refine Zt 11 ?_;refine HT5.o.opU (x:=(eu,.slice au nu cu,orS x y)) (by simp) HXY.o.width HLW.o 11 (some 58) ?_;intro g6 c6 Y6_ h;have HT6:=Zh (show Th3 bt bt z m w2 Y6_ _ _ _ _ _ _ (la++[x]) (lb++[y]) ((List.zipWith orS la lb)++[orS x y]) _ from h);clear h hS0;have hS0:=HT6.o.cells9 3 rfl;refine⟨fun _=>hS0,?_⟩;refine Zn 12 (some 5) ?v156 hS0 ?r156 ?t156
      case r156=>intro w hS;obtain⟨⟨⟨⟨s0,s1⟩,⟨s2,s3⟩⟩,s4⟩,s5⟩:=hS;go_simp;rfl
      refine Zn 13 (some 6) ?v157 hS0 ?r157 ?t157
      case r157=>intro w hS;obtain⟨⟨⟨⟨s0,s1⟩,⟨s2,s3⟩⟩,s4⟩,s5⟩:=hS;go_simp;rfl
      refine Zn 14 (some 7) ?v158 hS0 ?r158 ?t158
      case r158=>intro w hS;obtain⟨⟨⟨⟨s0,s1⟩,⟨s2,s3⟩⟩,s4⟩,s5⟩:=hS;go_simp;rfl
      refine Qu (by kernel_rfl) ?_ _;generalize hA:Act.put _ _ _=A0;simp only [Qba,Qaa,Zu,Zv,Zw] at hA;subst hA;clear hS0;have HF:=Zh (HT6.o.fin (HL.o.1.trans HL.o.2.symm));go_wp2;go_roundw
      case rel=>exact⟨i+1,_,_,by omega,by go_num,HF.o,LL.o,OO.o⟩
      case measure=>simp [intOf];omega
    ·obtain⟨eu,he1⟩:=Ze Y0_.heap.size;obtain⟨Y1_,hX1⟩:=Ze (Y0_.alloc (.cells #[iv m,.slice au nu cu] ST));refine Qs 10 (some 57) (.slice (some ⟨eu,0,none⟩) 1 1) Y1_ rfl (by kernel_rfl) ?u159 rfl ?_
     case u159=>rw [←hX1,←he1];go_simp
     have HT1:=Zh (show Th3 bt bt z m w2 Y1_ _ _ _ _ _ _ _ _ _ ((eu,.slice au nu cu,orS x y)::_) from HTs.o.al2 (x:=(pu,.slice au nu cu,orS x y)) (by simp) hX1 he1);clear hX1 he1 hS0;have hS0:=HT1.o.cells9 1 rfl;refine⟨fun _=>hS0,?_⟩;refine Qh (rs:=[2,6]) (by kernel_rfl) (by decide) ?_;intro j hj;have hj2:j=2∨j=6:=by simpa using hj
     clear hj;rcases hj2 with rfl|rfl
     ·obtain⟨ex,he2⟩:=Ze Y1_.heap.size;obtain⟨Y2_,hX2⟩:=Ze (Y1_.alloc (.cells #[iv m,.slice ax nx cx] ST));refine Qs 2 (some 49) (.slice (some ⟨ex,0,none⟩) 1 1) Y2_ rfl (by kernel_rfl) ?u160 rfl ?_
      case u160=>rw [←hX2,←he2];go_simp
      have HT2:=Zh (show Th3 bt bt z m w2 Y2_ _ _ _ _ _ _ _ _ _ ((ex,.slice ax nx cx,x)::_) from HT1.o.al2 (x:=(pa,.slice ax nx cx,x)) (by simp) hX2 he2);clear hX2 he2 hS0;have hS0:=HT2.o.cells9 2 rfl;refine⟨fun _=>hS0,?_⟩;refine Qh (rs:=[3,6]) (by kernel_rfl) (by decide) ?_;intro j hj;have hj2:j=3∨j=6:=by simpa using hj
      clear hj;rcases hj2 with rfl|rfl
      ·refine HT2.o.opA (x:=(ex,.slice ax nx cx,x)) (by simp) HX.o.width rfl 3 (some 50) ?_;intro g3 c3 Y3_ h;have HT3:=Zh (show Th3 bt bt z m w2 Y3_ _ _ _ _ _ _ (la++[x]) _ _ _ from h);clear h hS0;have hS0:=HT3.o.cells9 2 rfl;refine⟨fun _=>hS0,?_⟩;refine Zt 6 ?_;obtain⟨ey,he4⟩:=Ze Y3_.heap.size;obtain⟨Y4_,hX4⟩:=Ze (Y3_.alloc (.cells #[iv m,.slice ay ny cy] ST));refine Qs 6 (some 53) (.slice (some ⟨ey,0,none⟩) 1 1) Y4_ rfl (by kernel_rfl) ?u162 rfl ?_
       case u162=>rw [←hX4,←he4];go_simp
       have HT4:=Zh (show Th3 bt bt z m w2 Y4_ _ _ _ _ _ _ _ _ _ ((ey,.slice ay ny cy,y)::_) from HT3.o.al2 (x:=(pb,.slice ay ny cy,y)) (by simp) hX4 he4);clear hX4 he4 hS0;have hS0:=HT4.o.cells9 3 rfl;refine⟨fun _=>hS0,?_⟩;refine Zt 7 ?_;refine HT4.o.opB (x:=(ey,.slice ay ny cy,y)) (by simp) HY.o.width rfl 7 (some 54) ?_;intro g5 c5 Y5_ h;have HT5:=Zh (show Th3 bt bt z m w2 Y5_ _ _ _ _ _ _ (la++[x]) (lb++[y]) _ _ from h);clear h hS0;have hS0:=HT5.o.cells9 3 rfl;refine⟨fun _=>hS0,?_⟩;refine Zt 11 ?_;refine HT5.o.opU (x:=(eu,.slice au nu cu,orS x y)) (by simp) HXY.o.width HLW.o 11 (some 58) ?_;intro g6 c6 Y6_ h;have HT6:=Zh (show Th3 bt bt z m w2 Y6_ _ _ _ _ _ _ (la++[x]) (lb++[y]) ((List.zipWith orS la lb)++[orS x y]) _ from h);clear h hS0;have hS0:=HT6.o.cells9 3 rfl;refine⟨fun _=>hS0,?_⟩;refine Zn 12 (some 5) ?v165 hS0 ?r165 ?t165
       case r165=>intro w hS;obtain⟨⟨⟨⟨s0,s1⟩,⟨s2,s3⟩⟩,s4⟩,s5⟩:=hS;go_simp;rfl
       refine Zn 13 (some 6) ?v166 hS0 ?r166 ?t166
       case r166=>intro w hS;obtain⟨⟨⟨⟨s0,s1⟩,⟨s2,s3⟩⟩,s4⟩,s5⟩:=hS;go_simp;rfl
       refine Zn 14 (some 7) ?v167 hS0 ?r167 ?t167
       case r167=>intro w hS;obtain⟨⟨⟨⟨s0,s1⟩,⟨s2,s3⟩⟩,s4⟩,s5⟩:=hS;go_simp;rfl
       refine Qu (by kernel_rfl) ?_ _;generalize hA:Act.put _ _ _=A0;simp only [Qba,Qaa,Zu,Zv,Zw] at hA;subst hA;clear hS0;have HF:=Zh (HT6.o.fin (HL.o.1.trans HL.o.2.symm));go_wp2;go_roundw
       case rel=>exact⟨i+1,_,_,by omega,by go_num,HF.o,LL.o,OO.o⟩
       case measure=>simp [intOf];omega
      ·obtain⟨ey,he3⟩:=Ze Y2_.heap.size;obtain⟨Y3_,hX3⟩:=Ze (Y2_.alloc (.cells #[iv m,.slice ay ny cy] ST));refine Qs 6 (some 53) (.slice (some ⟨ey,0,none⟩) 1 1) Y3_ rfl (by kernel_rfl) ?u168 rfl ?_
       case u168=>rw [←hX3,←he3];go_simp
       have HT3:=Zh (show Th3 bt bt z m w2 Y3_ _ _ _ _ _ _ _ _ _ ((ey,.slice ay ny cy,y)::_) from HT2.o.al2 (x:=(pb,.slice ay ny cy,y)) (by simp) hX3 he3);clear hX3 he3 hS0;have hS0:=HT3.o.cells9 3 rfl;refine⟨fun _=>hS0,?_⟩;refine Zt 3 ?_;refine HT3.o.opA (x:=(ex,.slice ax nx cx,x)) (by simp) HX.o.width rfl 3 (some 50) ?_;intro g4 c4 Y4_ h;have HT4:=Zh (show Th3 bt bt z m w2 Y4_ _ _ _ _ _ _ (la++[x]) _ _ _ from h);clear h hS0;have hS0:=HT4.o.cells9 3 rfl;refine⟨fun _=>hS0,?_⟩;refine Zt 7 ?_;refine HT4.o.opB (x:=(ey,.slice ay ny cy,y)) (by simp) HY.o.width rfl 7 (some 54) ?_;intro g5 c5 Y5_ h;have HT5:=Zh (show Th3 bt bt z m w2 Y5_ _ _ _ _ _ _ (la++[x]) (lb++[y]) _ _ from h);clear h hS0;have hS0:=HT5.o.cells9 3 rfl;refine⟨fun _=>hS0,?_⟩;refine Zt 11 ?_;refine HT5.o.opU (x:=(eu,.slice au nu cu,orS x y)) (by simp) HXY.o.width HLW.o 11 (some 58) ?_;intro g6 c6 Y6_ h;have HT6:=Zh (show Th3 bt bt z m w2 Y6_ _ _ _ _ _ _ (la++[x]) (lb++[y]) ((List.zipWith orS la lb)++[orS x y]) _ from h);clear h hS0;have hS0:=HT6.o.cells9 3 rfl;refine⟨fun _=>hS0,?_⟩;refine Zn 12 (some 5) ?v172 hS0 ?r172 ?t172
       case r172=>intro w hS;obtain⟨⟨⟨⟨s0,s1⟩,⟨s2,s3⟩⟩,s4⟩,s5⟩:=hS;go_simp;rfl
       refine Zn 13 (some 6) ?v173 hS0 ?r173 ?t173
       case r173=>intro w hS;obtain⟨⟨⟨⟨s0,s1⟩,⟨s2,s3⟩⟩,s4⟩,s5⟩:=hS;go_simp;rfl
       refine Zn 14 (some 7) ?v174 hS0 ?r174 ?t174
       case r174=>intro w hS;obtain⟨⟨⟨⟨s0,s1⟩,⟨s2,s3⟩⟩,s4⟩,s5⟩:=hS;go_simp;rfl
       refine Qu (by kernel_rfl) ?_ _;generalize hA:Act.put _ _ _=A0;simp only [Qba,Qaa,Zu,Zv,Zw] at hA;subst hA;clear hS0;have HF:=Zh (HT6.o.fin (HL.o.1.trans HL.o.2.symm));go_wp2;go_roundw
       case rel=>exact⟨i+1,_,_,by omega,by go_num,HF.o,LL.o,OO.o⟩
       case measure=>simp [intOf];omega
     ·obtain⟨ey,he2⟩:=Ze Y1_.heap.size;obtain⟨Y2_,hX2⟩:=Ze (Y1_.alloc (.cells #[iv m,.slice ay ny cy] ST));refine Qs 6 (some 53) (.slice (some ⟨ey,0,none⟩) 1 1) Y2_ rfl (by kernel_rfl) ?u175 rfl ?_
      case u175=>rw [←hX2,←he2];go_simp
      have HT2:=Zh (show Th3 bt bt z m w2 Y2_ _ _ _ _ _ _ _ _ _ ((ey,.slice ay ny cy,y)::_) from HT1.o.al2 (x:=(pb,.slice ay ny cy,y)) (by simp) hX2 he2);clear hX2 he2 hS0;have hS0:=HT2.o.cells9 2 rfl;refine⟨fun _=>hS0,?_⟩;refine Zt 2 ?_;obtain⟨ex,he3⟩:=Ze Y2_.heap.size;obtain⟨Y3_,hX3⟩:=Ze (Y2_.alloc (.cells #[iv m,.slice ax nx cx] ST));refine Qs 2 (some 49) (.slice (some ⟨ex,0,none⟩) 1 1) Y3_ rfl (by kernel_rfl) ?u176 rfl ?_
      case u176=>rw [←hX3,←he3];go_simp
      have HT3:=Zh (show Th3 bt bt z m w2 Y3_ _ _ _ _ _ _ _ _ _ ((ex,.slice ax nx cx,x)::_) from HT2.o.al2 (x:=(pa,.slice ax nx cx,x)) (by simp) hX3 he3);clear hX3 he3 hS0;have hS0:=HT3.o.cells9 3 rfl;refine⟨fun _=>hS0,?_⟩;refine Zt 3 ?_;refine HT3.o.opA (x:=(ex,.slice ax nx cx,x)) (by simp) HX.o.width rfl 3 (some 50) ?_;intro g4 c4 Y4_ h;have HT4:=Zh (show Th3 bt bt z m w2 Y4_ _ _ _ _ _ _ (la++[x]) _ _ _ from h);clear h hS0;have hS0:=HT4.o.cells9 3 rfl;refine⟨fun _=>hS0,?_⟩;refine Zt 7 ?_;refine HT4.o.opB (x:=(ey,.slice ay ny cy,y)) (by simp) HY.o.width rfl 7 (some 54) ?_;intro g5 c5 Y5_ h;have HT5:=Zh (show Th3 bt bt z m w2 Y5_ _ _ _ _ _ _ (la++[x]) (lb++[y]) _ _ from h);clear h hS0;have hS0:=HT5.o.cells9 3 rfl;refine⟨fun _=>hS0,?_⟩;refine Zt 11 ?_;refine HT5.o.opU (x:=(eu,.slice au nu cu,orS x y)) (by simp) HXY.o.width HLW.o 11 (some 58) ?_;intro g6 c6 Y6_ h;have HT6:=Zh (show Th3 bt bt z m w2 Y6_ _ _ _ _ _ _ (la++[x]) (lb++[y]) ((List.zipWith orS la lb)++[orS x y]) _ from h);clear h hS0;have hS0:=HT6.o.cells9 3 rfl;refine⟨fun _=>hS0,?_⟩;refine Zn 12 (some 5) ?v180 hS0 ?r180 ?t180
      case r180=>intro w hS;obtain⟨⟨⟨⟨s0,s1⟩,⟨s2,s3⟩⟩,s4⟩,s5⟩:=hS;go_simp;rfl
      refine Zn 13 (some 6) ?v181 hS0 ?r181 ?t181
      case r181=>intro w hS;obtain⟨⟨⟨⟨s0,s1⟩,⟨s2,s3⟩⟩,s4⟩,s5⟩:=hS;go_simp;rfl
      refine Zn 14 (some 7) ?v182 hS0 ?r182 ?t182
      case r182=>intro w hS;obtain⟨⟨⟨⟨s0,s1⟩,⟨s2,s3⟩⟩,s4⟩,s5⟩:=hS;go_simp;rfl
      refine Qu (by kernel_rfl) ?_ _;generalize hA:Act.put _ _ _=A0;simp only [Qba,Qaa,Zu,Zv,Zw] at hA;subst hA;clear hS0;have HF:=Zh (HT6.o.fin (HL.o.1.trans HL.o.2.symm));go_wp2;go_roundw
      case rel=>exact⟨i+1,_,_,by omega,by go_num,HF.o,LL.o,OO.o⟩
      case measure=>simp [intOf];omega
end
end Go.Proofs.YtijekimobahgpaaGreatDoor
