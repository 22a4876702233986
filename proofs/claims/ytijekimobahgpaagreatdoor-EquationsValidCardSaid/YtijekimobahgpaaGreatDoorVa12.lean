/- A part of the proof. -/
import Derived.Test.YtijekimobahgpaaGreatDoorVa10
import Derived.Test.YtijekimobahgpaaGreatDoorVa11
import Derived.Laws.StructEq
set_option linter.unusedVariables false
set_option linter.unusedSimpArgs false
set_option linter.unusedSectionVars false
set_option maxRecDepth 100000
set_option maxHeartbeats 16000000
namespace Go.Proofs.YtijekimobahgpaaGreatDoor
section
open Go.RowKit
variable [Base]
def nmS (s:QD):List Str:=if s.dfn.isEmpty then s.uses else s.dfn::s.uses
theorem Qpy (out:List Str)(s:QD):QYe out s=(nmS s).foldl Qfc out:=by
 unfold QYe nmS;by_cases h:s.dfn.isEmpty=true
 ·rw[if_pos h,List.foldl_cons,show Qfc out s.dfn=out by unfold Qfc;rw[h];simp]
 ·rw[if_neg h]
theorem Qxy {x:Str}(h:QV x=true):x≠[]:=by
 rintro rfl;exact absurd h ZD
theorem nm_ne {s:QD}(h:stmtB s=true):(∀y∈nmS s,y≠[])∧(nmS s).length≤5:=by
 have h2:=QOl h;unfold stmtB Qjl at h;simp only[Bool.and_eq_true,List.all_eq_true] at h;have hu:∀y∈s.uses,y≠[]:=fun y hy=>Qxy (by simpa using h.1.1 y hy)
 unfold nmS;by_cases hd:s.dfn.isEmpty=true
 ·rw[if_pos hd];exact⟨hu,by omega⟩
 ·rw[if_neg hd];refine⟨fun y hy=>?_,by rw[List.length_cons];omega⟩;rcases List.mem_cons.1 hy with rfl|hy
  ·intro e;exact hd (by rw[e];rfl)
  ·exact hu y hy
def OwnL (z:Nat)(w:World)(v:Value)(l:List Str):Prop:=w.ownsRow (z+1) 9 1 v l.length (l.map sv)
theorem OwnL.strs {z:Nat}{w:World}{v:Value}{l:List Str}(h:OwnL z w v l):Qea w v l:=Qg.of_owns h
theorem OwnL.below {z:Nat}{w w':World}{v:Value}{l:List Str}(h:OwnL z w v l)(b:Below w.heap.size w w'):OwnL z w' v l:=QZd h b
theorem OwnL.push {z g cap:Nat}{w:World}{l:List Str}{x:Str}(h:w.ownsRow (z+1) 9 1 (.slice (some ⟨g,0,none⟩) (l.length+1) cap) (l.length+1) (l.map sv++[sv x])):OwnL z w (.slice (some ⟨g,0,none⟩) (l.length+1) cap) (l++[x]):=by
 unfold OwnL;rw[List.length_append,List.map_append];exact h
def Qow (w:World)(a:Option Addr)(V:Value)(nm:List Str):Prop:=∀q y,nm[q]? = some y→∃b o,a=some ⟨b,o,none⟩∧b<w.heap.size∧w.cell? ⟨b,o+q,none⟩=some (sv y)∧V.ownBlock≠some b
theorem Qow.below {w w':World}{a:Option Addr}{V:Value}{nm:List Str}(h:Qow w a V nm)(b:Below w.heap.size w w'):Qow w' a V nm:=fun q y hy=>by
 obtain⟨nb,o,e,h1,h2,h3⟩:=h q y hy
 exact⟨nb,o,e,Nat.lt_of_lt_of_le h1 b.size,(b.cell (p:=⟨nb,o+q,none⟩) h1).trans h2,h3⟩
theorem Qow.grown {w w':World}{a:Option Addr}{V:Value}{nm:List Str}{g n cap:Nat}(h:Qow w a V nm)(hg:w.grownBy w' V.ownBlock)(hn:V.ownBlock=some g∨w.heap.size≤g):Qow w' a (.slice (some ⟨g,0,none⟩) n cap) nm:=fun q y hy=>by
 obtain⟨nb,o,e,h1,h2,h3⟩:=h q y hy
 refine⟨nb,o,e,Nat.lt_of_lt_of_le h1 hg.size,(World.cell?_of_block (a:=⟨nb,o+q,none⟩) (hg.block nb h1 (Ne.symm h3))).trans h2,fun e2=>?_⟩
 have e3:g=nb:=by simpa [Value.ownBlock] using e2
 subst e3
 rcases hn with hn|hn
 ·exact h3 hn
 ·omega
theorem Qow.old {z:Nat}{w w':World}{a:Option Addr}{n c:Nat}{V:Value}{nm L:List Str}(hz:w.heap.size=z)(h:Qea w (.slice a n c) nm)(b:Below z w w')(ho:OwnL z w' V L):Qow w' a V nm:=fun q y hy=>by
 obtain⟨a',c',e,-,hc⟩:=h.cell
 injection e with e
 subst e
 obtain⟨nb,o,e,h1,h2⟩:=hc q y hy
 refine⟨nb,o,e,by have:=b.size;omega,(b.cell (p:=⟨nb,o+q,none⟩) (by show nb<z;omega)).trans h2,fun e2=>?_⟩
 have:=(World.ownsRow.lt ho nb e2).1
 omega
theorem Qow.fresh {z B:Nat}{w w0:World}{g:Option Addr}{n c:Nat}{V:Value}{x:Str}{l L:List Str}(hz:z+1≤B)(h:w.ownsRow B 9 1 (.slice g n c) n ([sv x]++l.map sv))(hn:n=(x::l).length)(ho:OwnL z w V L)(ho0:OwnL z w0 V L)(hB:w0.heap.size≤B:=by exact Nat.le_refl _)(hbs:Base.b≤B:=by omega):Qow w g V (x::l):=fun q y hy=>by
 have h0:0<n:=by rw[hn];simp
 obtain⟨gb,rfl,h1,h2,-,h3,-⟩:=QWd h h0 hbs
 have hq:=(List.getElem?_eq_some_iff.1 hy).1
 refine⟨gb,0,rfl,h2,?_,fun e=>?_⟩
 ·rw[Nat.zero_add,h3 q (by simpa using hq),show [sv x]++l.map sv=(x::l).map sv from rfl,List.getElem?_map,hy]
  rfl
 ·have:=(World.ownsRow.lt ho0 gb e).2
  omega
theorem QPw {P:Program}{ops:Array Oper}{rest:List Oper}{o:Oper}{a:Act}{Q:Exit→Act→World→Prop}{w:World}(news:List Value)(hgd:o.guard=none)(s x:Operand)(t:TypeId)(ho:o.op=.call { callee:=.builtin .append,args:=#[s,x],argTypes:=#[t,t] })(base:Nat)(e:TypeId)(z:Value)(size bytes:Nat)(ht:P.underlying t=some (.slice e))(hi:(P.info? e).map (fun i=>(i.zero,i.size,i.bytes))=some (some z,size,bytes))(hzs:z.cells.size=size)(hsz:0<size)(v:Value)(n:Nat)(xs:List Value)(hown:w.ownsRow base e size v n xs)(hs:a.eval s=v)(hx:a.eval x=.slice (some ⟨w.heap.size,0,none⟩) 1 1)(hl:news.length=size)(h1:news.all Value.oneCell'=true)(h63:n+1≤maxLen)(hbytes:(n+1)*bytes≤140737488355328)(hbase:base≤w.heap.size)(h:∀g cap w',w'.ownsRow base e size (.slice (some ⟨g,0,none⟩) (n+1) cap) (n+1) (xs++news)→w.grownBy w' v.ownBlock→(v.ownBlock=some g∨w.heap.size≤g) →
   wpList P ops Q rest (a.put o.dst (.slice (some ⟨g,0,none⟩) (n+1) cap)) w'):
  wpList P ops Q (o::rest) a (w.alloc (.cells news.toArray e)):=by
 obtain⟨i,hi',hz,hs1,hs2⟩:=info_parts hi;refine wpList_append_lies _ hgd s x t ho base e i z size bytes ht hi' hz hs1 hs2 hzs hsz v n xs hs (hown.alloc _) ⟨w.heap.size,0,none⟩ 1 1 news hx ZO
  QPk (fun u hu=>List.all_eq_true.1 h1 u hu) ZO h63 hbytes (by simp;omega) _ rfl ?_
 intro g cap w' h2 h3 h4 h5;refine h g cap w' h2 ?_ ?_
 ·have ha:=World.grownBy_alloc w (.cells news.toArray e) v.ownBlock;exact⟨h3.os.trans ha.os,h3.tape.trans ha.tape,h3.output.trans ha.output,Nat.le_trans ha.size h3.size,
   fun k hk hn=>(h3.block k (Nat.lt_of_lt_of_le hk ha.size) hn).trans (ha.block k hk hn)⟩
 ·rcases h4 with h4|h4
  ·exact .inl h4
  ·exact .inr (by rw[h4];simp)
theorem QZx {w:World}(p:List Qo)(v:Value)(h:QAa w v p)(hv:QMa p=true)(hbs:Base.b≤w.heap.size):
  Calls Tryz.prog 119 #[.agg #[v]] w (QDw (QN p) w):=by
 obtain⟨z,hz⟩:=Ze w.heap.size;have KV:=Zh (show ∀x,Below z w x→Calls Tryz.prog 126 #[.agg #[v]] x (QTj (QMa p) x) from fun x b=>QTw p v x (h.below (hz▸b)));rw[hv] at KV;have HFEW:=Zh (QUc hv);have HPF:=Zh (fun i=>QVi hv i);have HVS:=Zh (Qji hv);have HVP:=Zh (show QN p=(QH p).foldl QYe [] by unfold QN;rw[hv];rfl);obtain⟨a,c,rfl,hn,hc⟩:=h.cell;have HC:=Zh hc;obtain⟨n,hl⟩:=Ze p.length;have hn8:n≤8:=by have:=HFEW.o.1;omega
 rw[hl] at hn KV ⊢;have HL:=Zh hl;unfold maxLen at hn;obtain⟨W,hW⟩:=Ze (w.alloc (.cells #[.slice a n c] 25));have HPB:=Zh (show W.heap[z]? = some (.cells #[.slice a n c] 25 (0,0)) by rw[←hW,←hz];exact heap_alloc_new _ _);have BW:=Zh (show Below z w W by rw[←hW,←hz];exact Zb);have HWW:=Zh hW;have HZ:=Zh hz;have hzW:z+1=W.heap.size:=by rw[←hW,←hz];simp
 rw[hz] at hbs;clear h hc hl hW hv;have x0:=(Qd HPB.o).1 0;simp at x0;go_enter Tryz.func119,Tryz.ntmps119;go_upto_region 1 with(fail)
 rw[show w.alloc (.cells #[.slice a n c] 25)=W from HWW.o]
 try rw[hz]
 go_wp2_with fail;refine(KV.o W BW.o).mono ?_;rintro e w1 ⟨rfl,b1⟩;have B1:=Zh (show Below (z+1) W w1 from hzW▸b1);clear b1 x0;have x0:=(Qd (Qc HPB.o B1.o ZO)).1 0;simp at x0;go_wp2;clear x0;go_loopw [3,4] (fun V y wr=>∃(i:Nat) (Y:Value),i≤n∧Y=V∧y=.int .i64 i∧Hid (Below (z+1) W wr)∧Hid (OwnL z wr Y ((QH (p.take i)).foldl QYe []))) (fun _ y _=>n-(intOf y).toNat)
 case atStart=>exact⟨0,_,Nat.zero_le _,rfl,rfl,B1.o,by unfold Hid OwnL;simp[QH,World.ownsRow]⟩
 case round=>
  obtain⟨i,V,hi,rfl,rfl,HB,HO⟩:=hrel;have x0:=(Qd (Qc HPB.o HB.o ZO)).1 0;simp at x0;by_cases hlt:i<n;rotate_left
  ·have HF:=Zh (show OwnL z wr V (QN p) by rw[HVP.o];have h:=HO.o;rw[List.take_of_length_le (by rw[HL.o];omega)] at h;exact h);go_wp2;exact bodyPost_ret (v:=V) (by simp[results,Tryz.results119,go_sem]) rfl ⟨_,rfl,HF.o.strs,by rw[HZ.o];exact BW.o.trans (HB.o.mono ZO)⟩
  ·obtain⟨f,hf⟩:∃f,p[i]? = some f:=⟨_,List.getElem?_eq_getElem (by rw[HL.o];exact hlt)⟩;obtain⟨fb,fo,bv,rfl,hfb,-,g1,hbl⟩:=HC.o i f hf;obtain⟨ba,bc,rfl,hbn,hbc⟩:=hbl.cell;have HBC:=Zh hbc;obtain⟨bn,hbn2⟩:=Ze f.blocks.length;rw[hbn2] at g1 hbn;unfold maxLen at hbn;have HBN:=Zh hbn2;have G1:=Zh ((BW.o.cell (p:=⟨fb,fo+i*2+1,none⟩) (by show fb<z;omega)).trans g1);have HST:=Zh (Qni hf);have HF:=Zh hf;obtain⟨D,hD⟩:=Ze (QH (p.take i));have HPI:=HPF.o i;rw[hD] at HO HST HPI;have HDD:=Zh hD;clear hf hbl hbn2 hbc g1 hD;go_wp2;clear x0;go_loopw [3,5] (fun V y wr=>∃(k:Nat) (Y:Value),k≤bn∧Y=V∧y=.int .i64 k∧Hid (Below (z+1) W wr)∧Hid (OwnL z wr Y ((D++Qga (f.blocks.take k)).foldl QYe []))) (fun _ y _=>bn-(intOf y).toNat)
   case atStart=>exact⟨0,_,Nat.zero_le _,rfl,rfl,HB.o,by unfold Hid;rw[show D++Qga (f.blocks.take 0)=D by simp[Qga]];exact HO.o⟩
   case round=>
    clear HO HB;obtain⟨k,V,hk,rfl,rfl,HB,HO⟩:=hrel;have x0:=(Qd (Qc HPB.o HB.o ZO)).1 0;simp at x0;have g1:=(HB.o.cell (p:=⟨fb,fo+i*2+1,none⟩) (by show fb<z+1;omega)).trans G1.o;by_cases hlt2:k<bn;rotate_left
    ·have HF2:=Zh (show OwnL z wr V ((QH (p.take (i+1))).foldl QYe []) by
      rw[HST.o];have h:=HO.o;rw[List.take_of_length_le (by rw[HBN.o];omega)] at h;exact h)
     go_wp2;go_roundw
     case rel=>exact⟨i+1,_,by omega,rfl,by go_num,HB.o,HF2.o⟩
     case measure=>simp[intOf];omega
    ·obtain⟨b,hb⟩:∃b,f.blocks[k]? = some b:=⟨_,List.getElem?_eq_getElem (by rw[HBN.o];exact hlt2)⟩;obtain⟨kb,ko,sv1,rfl,hkb,-,q1,hsl⟩:=HBC.o k b hb;obtain⟨sa,sc,rfl,hsn,hsc⟩:=hsl.cell;have HSC:=Zh hsc;obtain⟨sn,hsn2⟩:=Ze b.stmts.length;rw[hsn2] at q1 hsn;unfold maxLen at hsn;have HSN:=Zh hsn2;have q1:=(HB.o.cell (p:=⟨kb,ko+k*2+1,none⟩) (by show kb<z+1;omega)).trans ((BW.o.cell (p:=⟨kb,ko+k*2+1,none⟩) (by show kb<z;omega)).trans q1);have HBT:=Zh (QWg hb);have hfm:=List.mem_of_getElem? HF.o;have hfew:=HFEW.o.2 f hfm;have hbl2:=QRm ((f.blocks.take k).map QI.stmts) 32 (by intro x hx;obtain⟨y,hy,rfl⟩:=List.mem_map.1 hx;exact hfew.2 y (List.mem_of_mem_take hy));have hsn3:sn≤32:=by rw[←hsn2];exact hfew.2 b (List.mem_of_getElem? hb)
     rw[show((f.blocks.take k).map QI.stmts).flatten=Qga (f.blocks.take k) from rfl,List.length_map,List.length_take] at hbl2;have hEl:(D++Qga (f.blocks.take k)).length≤5000:=by rw[List.length_append];have:=hfew.1;omega
     have HSS:=Zh (show ∀s∈b.stmts,stmtB s=true from fun s hs=>HVS.o s (List.mem_flatten.2 ⟨_,List.mem_map.2 ⟨f,hfm,rfl⟩,List.mem_flatten.2 ⟨_,List.mem_map.2 ⟨b,List.mem_of_getElem? hb,rfl⟩,hs⟩⟩));have HES:=Zh (show ∀s∈D++Qga (f.blocks.take k),stmtB s=true from fun s hs=>by
      rcases List.mem_append.1 hs with hs|hs
      ·rw[←HDD.o] at hs;obtain⟨l,hl,hs⟩:=List.mem_flatten.1 hs;obtain⟨f',hf',rfl⟩:=List.mem_map.1 hl;exact HVS.o s (List.mem_flatten.2 ⟨_,List.mem_map.2 ⟨f',List.mem_of_mem_take hf',rfl⟩,hs⟩)
      ·obtain⟨l,hl,hs⟩:=List.mem_flatten.1 hs;obtain⟨b',hb',rfl⟩:=List.mem_map.1 hl;exact HVS.o s (List.mem_flatten.2 ⟨_,List.mem_map.2 ⟨f,hfm,rfl⟩,List.mem_flatten.2 ⟨_,List.mem_map.2 ⟨b',List.mem_of_mem_take hb',rfl⟩,hs⟩⟩))
     obtain⟨E,hE⟩:=Ze (D++Qga (f.blocks.take k));rw[hE] at HO hEl HES;have HBE:=Zh (show D++Qga (f.blocks.take (k+1))=E++b.stmts by rw[HBT.o,←hE,List.append_assoc]);clear hb hsl hsn2 hsc hE hfm hfew hbl2;go_wp2;clear x0 g1 q1;go_loopw [3,7] (fun V y wr=>∃(j:Nat) (Y:Value),j≤sn∧Y=V∧y=.int .i64 j∧Hid (Below (z+1) W wr)∧Hid (OwnL z wr Y ((E++b.stmts.take j).foldl QYe []))) (fun _ y _=>sn-(intOf y).toNat)
     case atStart=>exact⟨0,_,Nat.zero_le _,rfl,rfl,HB.o,by unfold Hid;rw[show E++b.stmts.take 0=E by simp];exact HO.o⟩
     case round=>
      clear HO HB;obtain⟨j,V,hj,rfl,rfl,HB,HO⟩:=hrel;by_cases hlt3:j<sn;rotate_left
      ·have HF3:=Zh (show OwnL z wr V ((D++Qga (f.blocks.take (k+1))).foldl QYe []) by
        rw[HBE.o];have h:=HO.o;rw[List.take_of_length_le (by rw[HSN.o];omega)] at h;exact h)
       go_wp2;go_roundw
       case rel=>exact⟨k+1,_,by omega,rfl,by go_num,HB.o,HF3.o⟩
       case measure=>simp[intOf];omega
      ·obtain⟨s,hs⟩:∃s,b.stmts[j]? = some s:=⟨_,List.getElem?_eq_getElem (by rw[HSN.o];exact hlt3)⟩;obtain⟨b4,o4,u,t,rfl,hb4,-,c1,c2,-,hu,-⟩:=HSC.o j s hs;obtain⟨ua,uc,rfl,hun,-⟩:=hu.cell;have c1:=(HB.o.cell (p:=⟨b4,o4+j*4+1,none⟩) (by show b4<z+1;omega)).trans ((BW.o.cell (p:=⟨b4,o4+j*4+1,none⟩) (by show b4<z;omega)).trans c1);have c2:=(HB.o.cell (p:=⟨b4,o4+j*4+2,none⟩) (by show b4<z+1;omega)).trans ((BW.o.cell (p:=⟨b4,o4+j*4+2,none⟩) (by show b4<z;omega)).trans c2);have hsB:=HSS.o s (List.mem_of_getElem? hs);obtain⟨hne5,hlen5⟩:=nm_ne hsB;have hul:=(QOl hsB).1;have hll:=Qpj (E++b.stmts.take j) [] (fun x hx=>by
        rcases List.mem_append.1 hx with hx|hx
        ·exact(QOl (HES.o x hx)).1
        ·exact(QOl (HSS.o x (List.mem_of_mem_take hx))).1)
       rw[List.length_append,List.length_take] at hll;obtain⟨un,hun2⟩:=Ze s.uses.length;rw[hun2] at c2 hul;have HSD:=Zh (show(E++b.stmts.take (j+1)).foldl QYe []=(nmS s).foldl Qfc ((E++b.stmts.take j).foldl QYe []) by
        rw[List.take_add_one,hs,←List.append_assoc,List.foldl_append];exact Qpy _ _)
       obtain⟨L0,hL0⟩:=Ze ((E++b.stmts.take j).foldl QYe []);rw[hL0] at HO HSD hll;obtain⟨nm,hnm⟩:=Ze (nmS s);rw[hnm] at HSD hne5 hlen5;obtain⟨nl,hnl⟩:=Ze nm.length;have HNL:=Zh hnl;have HNE:=Zh hne5;have HNM5:=Zh (show nl≤5 by omega);have HL0:=Zh (show L0.length≤29000 by simp at hll;omega);have HUO:=Zh hu;have HUS:=Zh (show Qg wr 9 1 (.slice ua un uc) (s.uses.map sv) by
        have h1:=Qg.same hu (Qf.below (HZ.o▸BW.o));rw[hun2] at h1;exact Qg.same h1 (Qf.below (w:=W) (hzW▸HB.o)))
       have HUN:=Zh hun2;have C1:=Zh c1;have C2:=Zh c2;have hszr:z+1≤wr.heap.size:=by have:=HB.o.size;omega
       rw[hun2] at HUO;clear hs hu hsB hne5 hlen5 hll hL0 hnl hun hun2;by_cases hd:s.dfn=[]
       ·have td:(s.dfn==[])=true:=by rw[hd];rfl
        have HNM:=Zh (show s.uses=nm by rw[←hnm];unfold nmS;rw[if_pos (by rw[hd];rfl)]);obtain rfl:nl=un:=by rw[←HNL.o,←HNM.o,HUN.o]
        have HN0:=Zh (show Qow wr ua V nm by rw[←HNM.o];exact Qow.old HZ.o HUO.o (BW.o.trans (HB.o.mono ZO)) HO.o);have hdq:sv s.dfn=.string ⟨#[]⟩:=by rw[hd]
        rw[hdq] at c1;clear hd hnm td hdq;go_wp2;clear c1 c2;go_loopw [3,9] (fun V y wr=>∃(q:Nat) (Y:Value),q≤nl∧Y=V∧y=.int .i64 q∧Hid (Below (z+1) W wr)∧Hid (OwnL z wr Y ((nm.take q).foldl Qfc L0))∧Hid (Qow wr ua Y nm)) (fun _ y _=>nl-(intOf y).toNat)
        case atStart=>exact⟨0,_,Nat.zero_le _,rfl,rfl,HB.o,HO.o,HN0.o⟩
        case round=>
         obtain⟨q,V,hq,rfl,rfl,HB,HO,HN⟩:=hrel;by_cases hlt4:q<nl;rotate_left
         ·have HF4:=Zh (show OwnL z wr V ((E++b.stmts.take (j+1)).foldl QYe []) by
           rw[HSD.o];have h:=HO.o;rw[List.take_of_length_le (by rw[HNL.o];omega)] at h;exact h)
          go_wp2;go_roundw
          case rel=>exact⟨j+1,_,by omega,rfl,by go_num,HB.o,HF4.o⟩
          case measure=>simp[intOf];omega
         ·obtain⟨y,hy⟩:∃y,nm[q]? = some y:=⟨_,List.getElem?_eq_getElem (by rw[HNL.o];exact hlt4)⟩;obtain⟨yb,yo,hna,hyb,g0,hvb⟩:=HN.o q y hy;have HTK:=Zh (show(nm.take (q+1)).foldl Qfc L0=Qfc ((nm.take q).foldl Qfc L0) y by rw[List.take_add_one,hy];simp[List.foldl_append]);have hyne:y≠[]:=HNE.o y (List.mem_of_getElem? hy);have hll:=QPh (nm.take q) L0;obtain⟨L1,hL1⟩:=Ze ((nm.take q).foldl Qfc L0);rw[hL1] at HO HTK hll;rw[List.length_take] at hll;have hl1:L1.length≤30000:=by have:=HL0.o;have:=HNM5.o;omega
          have KP:=Zh (Qtw L1 V y wr HO.o.strs);have hzr:z+1≤wr.heap.size:=by have:=HB.o.size;omega
          subst hna;clear hL1 hll;by_cases hm:y∈L1
          ·have HSM:=Zh (show Qfc L1 y=L1 by unfold Qfc;rw[if_pos (by simp[hm])]);obtain⟨ix,hix⟩:=QZw hm;rw[hix] at KP;have ti:((ix:Int)<0)=False:=by simp
           clear hy hm hix;go_wp2_with fail;refine KP.o.mono ?_;rintro e w4 ⟨rfl,b4⟩;have HB4:=Zh (HB.o.trans (b4.mono hzr));have HO4:=Zh (show OwnL z w4 V ((nm.take (q+1)).foldl Qfc L0) by rw[HTK.o,HSM.o];exact HO.o.below b4);have HN4:=Zh (HN.o.below b4);clear b4;go_wp2;go_roundw
           case rel=>exact⟨q+1,_,by omega,rfl,by go_num,HB4.o,HO4.o,HN4.o⟩
           case measure=>simp[intOf];omega
          ·have HSM:=Zh (show Qfc L1 y=L1++[y] by unfold Qfc;rw[if_neg (by simp[hm,hyne])]);rw[show idxI L1 y = -1 by unfold idxI;rw[if_neg hm]] at KP;clear hy hm;go_wp2_with fail;refine KP.o.mono ?_;rintro e w4 ⟨rfl,b4⟩;have HB4:=Zh (HB.o.trans (b4.mono hzr));have HO4:=Zh (HO.o.below b4);have HN4:=Zh (HN.o.below b4);have g0:=(b4.cell (p:=⟨yb,yo+q,none⟩) hyb).trans g0;have hz4:z+1≤w4.heap.size:=by have:=b4.size;omega
           clear b4;go_wp2_with (at_builtin;refine QPw [sv y] rfl _ _ _ rfl (z+1) 9 _ 1 16 Tryz.underlying86 Qph rfl ZO _ _ _ HO4.o rfl rfl rfl rfl (by unfold maxLen;omega) ZO hz4 ?_;intro g cap w5 ho hg hgn;have HB5:=Zh (HB4.o.trans (Below.of_grown hg HO4.o hz4));have HO5:=Zh (OwnL.push ho);have HN5:=Zh (show Qow w5 _ (.slice (some ⟨g,0,none⟩) (L1.length+1) cap) nm from HN4.o.grown hg hgn);clear ho hg hgn);have HO6:=Zh (show OwnL z w5 _ ((nm.take (q+1)).foldl Qfc L0) by rw[HTK.o,HSM.o];exact HO5.o);go_roundw
           case rel=>exact⟨q+1,_,by omega,rfl,by go_num,HB5.o,HO6.o,HN5.o⟩
           case measure=>simp[intOf];omega
       ·have td:(s.dfn==[])=false:=by simpa using hd
        have td2:(s.dfn.isEmpty)=false:=by cases h:s.dfn with|nil=>exact absurd h hd|cons a r=>rfl
        have HNM:=Zh (show s.dfn::s.uses=nm by rw[←hnm];unfold nmS;rw[if_neg (by rw[td2];exact Bool.false_ne_true)]);clear hd hnm;go_upto_region 16 with(fail)
        refine Zr (fun w'=>w'.cell? ⟨b4,o4+j*4+1,none⟩=some (sv s.dfn)∧w'.cell? ⟨b4,o4+j*4+2,none⟩=some (.slice ua un uc)) 12 (⟨c1,c2⟩) fun hS0=>?_
        refine Yd 0 58 ?_;refine Yd 1 59 ?_;refine Yd 2 60 ?_;refine Yd 3 61 ?_;refine Yd 4 62 ?_;refine Yd 6 64 ?_;refine Yd 7 65 ?_;refine Yd 8 66 ?_;refine Yd 9 67 ?_;refine Yd 10 68 ?_;refine QW 5 (some 63) (.slice (some ⟨wr.heap.size,0,none⟩) 1 1) ((wr.drewN 1).alloc (.cells #[sv s.dfn] 9)) rfl ZK ZK ?rv rfl (fun _=>?sv) ?_
        case rv=>go_simp
        case sv=>exact⟨(World.cell?_of_block (Below.heap_alloc _ _ _ (show b4<wr.heap.size by omega))).trans hS0.1,(World.cell?_of_block (Below.heap_alloc _ _ _ (show b4<wr.heap.size by omega))).trans hS0.2⟩
        have hS1:(fun w':World=>w'.cell? ⟨b4,o4+j*4+1,none⟩=some (sv s.dfn)∧w'.cell? ⟨b4,o4+j*4+2,none⟩=some (.slice ua un uc)) ((wr.drewN 1).alloc (.cells #[sv s.dfn] 9)):=⟨(World.cell?_of_block (Below.heap_alloc _ _ _ (show b4<wr.heap.size by omega))).trans hS0.1,(World.cell?_of_block (Below.heap_alloc _ _ _ (show b4<wr.heap.size by omega))).trans hS0.2⟩;clear hS0;have hS0:=hS1;clear hS1;refine QRe 11 (some 69) rfl ZK ZK rfl _ _ 86 rfl wr.heap.size 9 _ 1 16 Tryz.underlying86 Qph rfl ZD (.slice (some ⟨wr.heap.size,0,none⟩) 1 1) 1 [sv s.dfn] (Qgl (heap_alloc_new (wr.drewN 1) _) (Nat.le_refl _)) ZK (.slice ua un uc) un (s.uses.map sv) ZK (Qg.same (w:=wr.drewN 1) HUS.o Qf.alloc) (by rw[List.length_map,HUN.o];omega) (QZp s.uses) (by unfold maxLen;omega) ZO ZS ?_;intro g4 c4 w5 ho hg;have HB5:=Zh (show Below wr.heap.size wr w5 from(((Qp (Below.refl wr.heap.size wr) 1).alloc (Nat.le_refl _) (.cells #[sv s.dfn] 9))).trans (Below.of_grown hg (Qgl (heap_alloc_new (wr.drewN 1) _) (Nat.le_refl _)) ZS));have HNW:=Zh (show Qow w5 g4 V (s.dfn::s.uses) from Qow.fresh (by have:=HB.o.size;omega) ho (by simp;have:=HUN.o;omega) (HO.o.below HB5.o) HO.o);clear ho hg;have hS1:(fun w':World=>w'.cell? ⟨b4,o4+j*4+1,none⟩=some (sv s.dfn)∧w'.cell? ⟨b4,o4+j*4+2,none⟩=some (.slice ua un uc)) w5:=⟨(HB5.o.cell (p:=⟨b4,o4+j*4+1,none⟩) (show b4<wr.heap.size by omega)).trans C1.o,(HB5.o.cell (p:=⟨b4,o4+j*4+2,none⟩) (show b4<wr.heap.size by omega)).trans C2.o⟩;refine⟨fun _=>hS1,?_⟩;clear hS0;have hS0:=hS1;clear hS1;refine QW 12 (some 8) (.slice g4 (1+un) c4) w5 rfl ZK ZK (by go_simp) rfl (fun h=>absurd rfl h) ?_;refine Qu ZK ?_ _;generalize hA:Act.put _ _ _=A0;simp only[Qba,Qaa,Zu,Zv,Zw] at hA;subst hA;clear hS0 c1 c2;have HNM1:=Zh (show Qow w5 g4 V nm by rw[←HNM.o];exact HNW.o);have HO5:=Zh (HO.o.below HB5.o);have HB6:=Zh (HB.o.trans (HB5.o.mono (by have:=HB.o.size;omega)));have hnl:nl=1+un:=by rw[←HNL.o,←HNM.o,List.length_cons,HUN.o];omega
        rw[←hnl];clear hnl;have hnl5:=HNM5.o;go_wp2;go_loopw [3,9] (fun V y wr=>∃(q:Nat) (Y:Value),q≤nl∧Y=V∧y=.int .i64 q∧Hid (Below (z+1) W wr)∧Hid (OwnL z wr Y ((nm.take q).foldl Qfc L0))∧Hid (Qow wr g4 Y nm)) (fun _ y _=>nl-(intOf y).toNat)
        case atStart=>exact⟨0,_,Nat.zero_le _,rfl,rfl,HB6.o,HO5.o,HNM1.o⟩
        case round=>
         obtain⟨q,V,hq,rfl,rfl,HB,HO,HN⟩:=hrel;by_cases hlt4:q<nl;rotate_left
         ·have HF4:=Zh (show OwnL z wr V ((E++b.stmts.take (j+1)).foldl QYe []) by
           rw[HSD.o];have h:=HO.o;rw[List.take_of_length_le (by rw[HNL.o];omega)] at h;exact h)
          go_wp2;go_roundw
          case rel=>exact⟨j+1,_,by omega,rfl,by go_num,HB.o,HF4.o⟩
          case measure=>simp[intOf];omega
         ·obtain⟨y,hy⟩:∃y,nm[q]? = some y:=⟨_,List.getElem?_eq_getElem (by rw[HNL.o];exact hlt4)⟩;obtain⟨yb,yo,hna,hyb,g0,hvb⟩:=HN.o q y hy;have HTK:=Zh (show(nm.take (q+1)).foldl Qfc L0=Qfc ((nm.take q).foldl Qfc L0) y by rw[List.take_add_one,hy];simp[List.foldl_append]);have hyne:y≠[]:=HNE.o y (List.mem_of_getElem? hy);have hll:=QPh (nm.take q) L0;obtain⟨L1,hL1⟩:=Ze ((nm.take q).foldl Qfc L0);rw[hL1] at HO HTK hll;rw[List.length_take] at hll;have hl1:L1.length≤30000:=by have:=HL0.o;have:=HNM5.o;omega
          have KP:=Zh (Qtw L1 V y wr HO.o.strs);have hzr:z+1≤wr.heap.size:=by have:=HB.o.size;omega
          subst hna;clear hL1 hll;by_cases hm:y∈L1
          ·have HSM:=Zh (show Qfc L1 y=L1 by unfold Qfc;rw[if_pos (by simp[hm])]);obtain⟨ix,hix⟩:=QZw hm;rw[hix] at KP;have ti:((ix:Int)<0)=False:=by simp
           clear hy hm hix;go_wp2_with fail;refine KP.o.mono ?_;rintro e w4 ⟨rfl,b4⟩;have HB4:=Zh (HB.o.trans (b4.mono hzr));have HO4:=Zh (show OwnL z w4 V ((nm.take (q+1)).foldl Qfc L0) by rw[HTK.o,HSM.o];exact HO.o.below b4);have HN4:=Zh (HN.o.below b4);clear b4;go_wp2;go_roundw
           case rel=>exact⟨q+1,_,by omega,rfl,by go_num,HB4.o,HO4.o,HN4.o⟩
           case measure=>simp[intOf];omega
          ·have HSM:=Zh (show Qfc L1 y=L1++[y] by unfold Qfc;rw[if_neg (by simp[hm,hyne])]);rw[show idxI L1 y = -1 by unfold idxI;rw[if_neg hm]] at KP;clear hy hm;go_wp2_with fail;refine KP.o.mono ?_;rintro e w4 ⟨rfl,b4⟩;have HB4:=Zh (HB.o.trans (b4.mono hzr));have HO4:=Zh (HO.o.below b4);have HN4:=Zh (HN.o.below b4);have g0:=(b4.cell (p:=⟨yb,yo+q,none⟩) hyb).trans g0;have hz4:z+1≤w4.heap.size:=by have:=b4.size;omega
           clear b4;go_wp2_with (at_builtin;refine QPw [sv y] rfl _ _ _ rfl (z+1) 9 _ 1 16 Tryz.underlying86 Qph rfl ZO _ _ _ HO4.o rfl rfl rfl rfl (by unfold maxLen;omega) ZO hz4 ?_;intro g cap w5 ho hg hgn;have HB5:=Zh (HB4.o.trans (Below.of_grown hg HO4.o hz4));have HO5:=Zh (OwnL.push ho);have HN5:=Zh (show Qow w5 _ (.slice (some ⟨g,0,none⟩) (L1.length+1) cap) nm from HN4.o.grown hg hgn);clear ho hg hgn);have HO6:=Zh (show OwnL z w5 _ ((nm.take (q+1)).foldl Qfc L0) by rw[HTK.o,HSM.o];exact HO5.o);go_roundw
           case rel=>exact⟨q+1,_,by omega,rfl,by go_num,HB5.o,HO6.o,HN5.o⟩
           case measure=>simp[intOf];omega
end
section
open Go.RowKit
variable [Base]
def Qwy (w:World)(e:Ending)(w':World):Prop:=e=.returned (.tuple #[.agg #[iv 0,iv 0,iv 0,iv 0],iv 0])∧Below w.heap.size w w'
theorem Qcx {w:World}(p:List Qo)(v:Value)(h:QAa w v p)(ck:Ckd p)(hbs:Base.b≤w.heap.size):Calls Tryz.prog 62 #[.agg #[v]] w (Qwy w):=by
 obtain⟨z,hz⟩:=Ze w.heap.size;have hfew:=QUc ck.valid;have at_:∀x,Below z w x→QAa x v p∧Base.b≤x.heap.size:=fun x b=>⟨h.below (hz▸b),by have:=b.size;omega⟩
 have KV:=Zh (show ∀x,Below z w x→Calls Tryz.prog 126 #[.agg #[v]] x (QTj true x) from fun x b=>ck.valid▸QTw p v x (at_ x b).1);have KN:=Zh (show ∀x,Below z w x→Calls Tryz.prog 128 #[.agg #[v]] x (QDw (QRc p) x) from fun x b=>QVw p v (at_ x b).1 (at_ x b).2 ZO);have KS:=Zh (show ∀x,Below z w x→Calls Tryz.prog 131 #[.agg #[v]] x (fun e w'=>e=.returned (.tuple #[iv (QMd p),iv (QNd p)])∧Below x.heap.size x w') from fun x b=>QKx p v (at_ x b).1 ck.valid (at_ x b).2);have KX:=Zh (show ∀x,Below z w x→Calls Tryz.prog 119 #[.agg #[v]] x (QDw (QN p) x) from fun x b=>QZx p v (at_ x b).1 ck.valid (at_ x b).2);have KE:=Zh (show ∀(f:Qo) (bv:Value) (s:QD) (u t:Value) (last:Bool) (x:World),f∈p→QOc w bv f.blocks→Qea w u s.uses→Qea w t s.targets→QXi (QRc p) (QPb f) s last=0→Below z w x →
   Calls Tryz.prog 130 #[.agg #[v],.agg #[sv f.name,bv],.agg #[iv s.op,sv s.dfn,u,t],.bool last] x (IntQ 0 x) from fun f bv s u t last x hf hb hu ht he b=>
  Qvx p v (at_ x b).1 f bv (hb.keep (Qf.below (hz▸b)) (Qf.below (hz▸b)) (Qf.below (hz▸b))) s u t (Qg.same hu (Qf.below (hz▸b))) (Qg.same ht (Qf.below (hz▸b))) last (at_ x b).2 ZO (by have:=(hfew.2 f hf).1;omega) he)
 have KB:=Zh (show ∀(f:Qo) (bv:Value) (x:World),f∈p→QOc w bv f.blocks→Below z w x→Calls Tryz.prog 129 #[.agg #[sv f.name,bv]] x (QDw (QPb f) x) from fun f bv x hf hb b=>
  QGw f bv (hb.keep (Qf.below (hz▸b)) (Qf.below (hz▸b)) (Qf.below (hz▸b))) (at_ x b).2 (by have:=(hfew.2 f hf).1;omega))
 have KR:=Zh (show ∀(l:List Str) (v:Value) (x:World),l.Nodup→Qea x v l→Calls Tryz.prog 127 #[v] x (IntQ (-1) x) from fun l v x hd h=>Qny l v x h hd);have CK:=Zh ck;have HFEW:=Zh hfew;obtain⟨a,c,rfl,hn,hc⟩:=h.cell;have HC:=Zh hc;obtain⟨n,hl⟩:=Ze p.length;have hn8:n≤8:=by have:=hfew.1;omega
 rw[hl] at hn KV KN KS KX KE ⊢;have HL:=Zh hl;obtain⟨W,hW⟩:=Ze ((w.alloc (.cells #[.slice a n c] 25)).alloc (.cells #[iv 0,iv 0,iv 0,iv 0] 108));have HPB:=Zh (show W.heap[z]? = some (.cells #[.slice a n c] 25 (0,0)) by rw[←hW,←hz];exact Qz _ (heap_alloc_new _ _));have HNB:=Zh (show W.heap[z+1]? = some (.cells #[iv 0,iv 0,iv 0,iv 0] 108 (0,0)) by rw[←hW,←hz];exact Qda _ _);have BW:=Zh (show Below z w W by rw[←hW,←hz];exact(Zb).alloc ZS _);have HWW:=Zh hW;have HZ:=Zh hz;have hzW:z+2=W.heap.size:=by rw[←hW,←hz];simp
 rw[hz] at hbs;clear h hc hl hW ck hfew at_;have x0:=(Qd HPB.o).1 0;simp at x0;go_enter Tryz.func62,Tryz.ntmps62;go_upto_region 1 with(fail)
 rw[show(w.alloc (.cells #[.slice a n c] 25)).alloc (.cells #[iv 0,iv 0,iv 0,iv 0] 108)=W from HWW.o]
 try rw[hz]
 go_wp2_with fail;refine(KV.o W BW.o).mono ?_;rintro e w1 ⟨rfl,b1⟩;have B1:=Zh (show Below (z+2) W w1 from hzW▸b1);clear b1 x0;have x0:=(Qd (Qc HPB.o B1.o ZO)).1 0;simp at x0;go_wp2_with fail;refine(KN.o w1 (BW.o.trans (B1.o.mono ZO))).mono ?_;rintro e w2 ⟨nv,rfl,hnv,b2⟩;have B2:=Zh (show Below (z+2) W w2 from B1.o.trans (b2.mono (by have:=B1.o.size;omega)));have HNV:=Zh hnv;clear b2 hnv;go_wp2_with fail;refine(KR.o _ nv w2 CK.o.funcs HNV.o).mono ?_;rintro e w3 ⟨rfl,b3⟩;have B3:=Zh (show Below (z+2) W w3 from B2.o.trans (b3.mono (by have:=B2.o.size;omega)));clear b3 x0;go_upto_region 6 with(fail)
 go_wp2;go_loopw [5] (fun y wr=>∃i:Nat,i≤n∧y=.int .i64 i∧Hid (Below (z+2) W wr)) (fun y _=>n-(intOf y).toNat)
 case atStart=>exact⟨0,Nat.zero_le _,rfl,B3.o⟩
 case round=>
  obtain⟨i,hi,rfl,HB⟩:=hrel;have x0:=(Qd (Qc HPB.o HB.o ZO)).1 0;simp at x0;by_cases hlt:i<n;rotate_left
  ·have HBW:=Zh (BW.o.trans (HB.o.mono ZO));have hc1:=CK.o.vars;have hc2:=CK.o.nodes;have hc3:=CK.o.edges;obtain⟨nN,hnN⟩:=Ze (QMd p);obtain⟨nE,hnE⟩:=Ze (QNd p);rw[hnN,hnE] at KS;rw[hnN] at hc2;rw[hnE] at hc3;have t2:¬nN > 256:=by omega
   have t3:¬nE > 1024:=by omega
   have HV64:=Zh hc1;clear hnN hnE hc1 hc2 hc3;go_wp2_with fail;refine(KS.o wr HBW.o).mono ?_;rintro e w4 ⟨rfl,b4⟩;have B4:=Zh (show Below (z+2) W w4 from HB.o.trans (b4.mono (by have:=HB.o.size;omega)));clear b4 x0;have x0:=(Qd (Qc HPB.o B4.o ZO)).1 0;simp at x0;go_wp2_with fail;refine(KX.o w4 (BW.o.trans (B4.o.mono ZO))).mono ?_;rintro e w5 ⟨xv,rfl,hxv,b5⟩;obtain⟨xa,xc,rfl,-⟩:=hxv.cell;obtain⟨xn,hxn⟩:=Ze ((QN p).length);have t1:¬(xn:Int) > 64:=by have:=HV64.o;omega
   rw[hxn];have B5:=Zh (show Below (z+2) W w5 from B4.o.trans (b5.mono (by have:=B4.o.size;omega)));have HN5:=Zh (Qc HNB.o B5.o ZO);obtain⟨y0,y1,y2,y3⟩:=Qt HN5.o;have f0:=(Qa HN5.o).2 0;have f1:=(Qa HN5.o).2 1;have f2:=(Qa HN5.o).2 2;have f3:=(Qa HN5.o).2 3;clear b5 hxv hxn x0;go_wp2;refine bodyPost_ret (v:=.tuple #[.agg #[iv 0,iv 0,iv 0,iv 0],iv 0]) (by simp[results,Tryz.results62,go_sem,y0,y1,y2,y3]) rfl ⟨rfl,?_⟩;rw[HZ.o];exact BW.o.trans (((((B5.o.mono ZO).setCell (p:=⟨z+1,0,none⟩) (by show z≤z+1;omega) _).setCell (p:=⟨z+1,1,none⟩) (by show z≤z+1;omega) _).setCell (p:=⟨z+1,2,none⟩) (by show z≤z+1;omega) _).setCell (p:=⟨z+1,3,none⟩) (by show z≤z+1;omega) _)
  ·obtain⟨f,hf⟩:∃f,p[i]? = some f:=⟨_,List.getElem?_eq_getElem (by rw[HL.o];exact hlt)⟩;obtain⟨fb,fo,bv,rfl,hfb,g0,g1,hbl⟩:=HC.o i f hf;have hfm:=List.mem_of_getElem? hf;have KB2:=Zh (fun x b=>KB.o f bv x hfm hbl b);have KE2:=Zh (fun s u t last x=>KE.o f bv s u t last x hfm hbl);obtain⟨ba,bc,rfl,hbn,hbc⟩:=hbl.cell;have HBC:=Zh hbc;obtain⟨bn,hbn2⟩:=Ze f.blocks.length;have hbn16:bn≤16:=by have:=(HFEW.o.2 f hfm).1;omega
   rw[hbn2] at g1 KB2 KE2;have HBN:=Zh hbn2;have g0:=(HB.o.cell (p:=⟨fb,fo+i*2,none⟩) (by show fb<z+2;omega)).trans ((BW.o.cell (p:=⟨fb,fo+i*2,none⟩) (by show fb<z;omega)).trans g0);have g1:=(HB.o.cell (p:=⟨fb,fo+i*2+1,none⟩) (by show fb<z+2;omega)).trans ((BW.o.cell (p:=⟨fb,fo+i*2+1,none⟩) (by show fb<z;omega)).trans g1);have HF:=Zh hf;have HFM:=Zh hfm;obtain⟨U,hU⟩:=Ze (wr.alloc (.cells #[sv f.name,.slice ba bn bc] 89));obtain⟨xb,hxb⟩:=Ze wr.heap.size;have HXB:=Zh (show U.heap[xb]? = some (.cells #[sv f.name,.slice ba bn bc] 89 (0,0)) by rw[←hU,←hxb];exact heap_alloc_new _ _);have hxz:z+2≤xb:=by have:=HB.o.size;omega
   have BU:=Zh (show Below (z+2) W U by rw[←hU];exact HB.o.alloc ZO _);have hxU:xb+1=U.heap.size:=by rw[←hU,←hxb];simp
   have HUU:=Zh hU;have HXX:=Zh hxb;clear hf hbl hbn2 hbc hfm hbn hU;go_upto_region 10 with(fail)
   rw[show wr.alloc (.cells #[sv f.name,.slice ba bn bc] 89)=U from HUU.o]
   try rw[hxb]
   clear x0 g0 g1 hxb;obtain⟨x0,x1⟩:=Qq HXB.o;go_wp2_with fail;refine(KB2.o U (BW.o.trans (BU.o.mono ZO))).mono ?_;rintro e w2' ⟨nv2,rfl,hnv2,b2'⟩;have B2':=Zh (show Below (xb+1) U w2' from hxU▸b2');have HNV2:=Zh hnv2;clear b2' hnv2 x0 x1;go_wp2_with fail;refine(KR.o _ nv2 w2' (CK.o.blocks f HFM.o) HNV2.o).mono ?_;rintro e w3' ⟨rfl,b3'⟩;have B3':=Zh (show Below (xb+1) U w3' from B2'.o.trans (b3'.mono (by have:=B2'.o.size;omega)));clear b3';go_upto_region 13 with(fail)
   go_wp2;go_loopw [8] (fun y wr=>∃k:Nat,k≤bn∧y=.int .i64 k∧Hid (Below (xb+1) U wr)) (fun y _=>bn-(intOf y).toNat)
   case atStart=>exact⟨0,Nat.zero_le _,rfl,B3'.o⟩
   case round=>
    obtain⟨k,hk,rfl,HB2⟩:=hrel;obtain⟨x0,x1⟩:=Qq (Qc HXB.o HB2.o ZO);by_cases hlt2:k<bn;rotate_left
    ·have HB3:=Zh (BU.o.trans (HB2.o.mono ZO));go_wp2;go_roundw
     case rel=>exact⟨i+1,by omega,by go_num,HB3.o⟩
     case measure=>simp[intOf];omega
    ·obtain⟨b,hb⟩:∃b,f.blocks[k]? = some b:=⟨_,List.getElem?_eq_getElem (by rw[HBN.o];exact hlt2)⟩;obtain⟨kb,ko,sv1,rfl,hkb,-,q1,hsl⟩:=HBC.o k b hb;obtain⟨sa,sc,rfl,hsn,hsc⟩:=hsl.cell;have HSC:=Zh hsc;obtain⟨sn,hsn2⟩:=Ze b.stmts.length;have hbm:=List.mem_of_getElem? hb;have hsn3:sn≤32:=by have:=(HFEW.o.2 f HFM.o).2 b hbm;omega
     rw[hsn2] at q1;have HSN:=Zh hsn2;have q1:=(HB2.o.cell (p:=⟨kb,ko+k*2+1,none⟩) (by show kb<xb+1;omega)).trans ((BU.o.cell (p:=⟨kb,ko+k*2+1,none⟩) (by show kb<z+2;omega)).trans ((BW.o.cell (p:=⟨kb,ko+k*2+1,none⟩) (by show kb<z;omega)).trans q1));have HSE:=Zh (show ∀j s,b.stmts[j]? = some s→QXi (QRc p) (QPb f) s (decide (j+1=sn))=0 from fun j s hs=>by rw[←hsn2];exact CK.o.stmts f HFM.o b hbm j s hs);clear hb hsl hsn2 hsc hbm hsn;go_wp2;clear x0 x1 q1;go_loopw [10] (fun y wr=>∃j:Nat,j≤sn∧y=.int .i64 j∧Hid (Below (xb+1) U wr)) (fun y _=>sn-(intOf y).toNat)
     case atStart=>exact⟨0,Nat.zero_le _,rfl,HB2.o⟩
     case round=>
      clear HB2;obtain⟨j,hj,rfl,HB2⟩:=hrel;by_cases hlt3:j<sn;rotate_left
      ·go_wp2;go_roundw
       case rel=>exact⟨k+1,by omega,by go_num,HB2.o⟩
       case measure=>simp[intOf];omega
      ·obtain⟨s,hs⟩:∃s,b.stmts[j]? = some s:=⟨_,List.getElem?_eq_getElem (by rw[HSN.o];exact hlt3)⟩;obtain⟨b4,o4,u,t,rfl,hb4,c0,c1,c2,c3,hu,ht⟩:=HSC.o j s hs;have KE3:=Zh (fun last (e:QXi (QRc p) (QPb f) s last=0) x b=>KE2.o s u t last x hu ht e b);have he:=HSE.o j s hs;obtain⟨ua,uc,rfl,-⟩:=hu.cell;obtain⟨ta,tc,rfl,-⟩:=ht.cell;obtain⟨un,hun⟩:=Ze s.uses.length;obtain⟨tn,htn⟩:=Ze s.targets.length;rw[hun] at c2 KE3;rw[htn] at c3 KE3;have e1:((j:Int)==(sn:Int)-1)=decide (j+1=sn):=by
        by_cases h:j+1=sn
        ·rw[decide_eq_true h];simp;omega
        ·rw[decide_eq_false h];simp;omega
       have e2:IntKind.i64.wrap ((sn:Int)-1)=(sn:Int)-1:=IntWalk.i64_in _ ZO;have HSX:=Zh (show ∀x,Below (xb+1) U x→x.cell? ⟨z,0,none⟩=some (.slice (some ⟨fb,fo,none⟩) n c)∧x.cell? ⟨xb,0,none⟩=some (sv f.name)∧x.cell? ⟨xb,1,none⟩=some (.slice (some ⟨kb,ko,none⟩) bn bc) ∧
         x.cell? ⟨b4,o4+j*4,none⟩=some (iv s.op)∧x.cell? ⟨b4,o4+j*4+1,none⟩=some (sv s.dfn)∧x.cell? ⟨b4,o4+j*4+2,none⟩=some (.slice ua un uc)∧x.cell? ⟨b4,o4+j*4+3,none⟩=some (.slice ta tn tc) from fun x b=>by
        have hz4:b4<z:=by rw[←HZ.o];exact hb4
        have cc:∀o,x.cell? ⟨b4,o,none⟩=w.cell? ⟨b4,o,none⟩:=fun o=>(b.cell (p:=⟨b4,o,none⟩) (by show b4<xb+1;omega)).trans ((BU.o.cell (p:=⟨b4,o,none⟩) (by show b4<z+2;omega)).trans (BW.o.cell (p:=⟨b4,o,none⟩) hz4))
        have p0:=(Qd (Qc (Qc HPB.o BU.o ZO) b ZO)).1 0;simp at p0;obtain⟨y0,y1⟩:=Qq (Qc HXB.o b ZO);exact⟨p0,y0,y1,(cc _).trans c0,(cc _).trans c1,(cc _).trans c2,(cc _).trans c3⟩)
       have HE:=Zh he;obtain⟨m0,m1,m2,m3,m4,m5,m6⟩:=HSX.o wr HB2.o;clear hs hu ht he hun htn c0 c1 c2 c3;go_upto_region 20 with(fail)
       go_region_held3 (fun x=>x.cell? ⟨z,0,none⟩=some (.slice (some ⟨fb,fo,none⟩) n c)∧x.cell? ⟨xb,0,none⟩=some (sv f.name)∧x.cell? ⟨xb,1,none⟩=some (.slice (some ⟨kb,ko,none⟩) bn bc)∧x.cell? ⟨b4,o4+j*4,none⟩=some (iv s.op)∧x.cell? ⟨b4,o4+j*4+1,none⟩=some (sv s.dfn)∧x.cell? ⟨b4,o4+j*4+2,none⟩=some (.slice ua un uc)∧x.cell? ⟨b4,o4+j*4+3,none⟩=some (.slice ta tn tc)) (first|exact HSX.o _ B5.o|go_keep) ((go_at_call 130;refine(KE3.o _ HE.o _ (Qp (BW.o.trans ((BU.o.trans (HB2.o.mono ZO)).mono ZO)) _)).mono ?_;rintro e w5 ⟨rfl,b5⟩;have B5:=Zh (show Below (xb+1) U w5 from(Qp HB2.o 1).trans (b5.mono (by have:=HB2.o.size;show xb+1≤wr.heap.size;omega)));clear b5));clear m0 m1 m2 m3 m4 m5 m6;go_wp2;go_roundw
       case rel=>exact⟨j+1,by omega,by go_num,B5.o⟩
       case measure=>simp[intOf];omega
end
section
open Go.RowKit
variable [Base]
theorem QUx (a b c d a' b' c' d':Int)(w:World):(Op.equalIn 10000 NT (.agg #[iv a,iv b,iv c,iv d]) (.agg #[iv a',iv b',iv c',iv d'])).run Tryz.prog w=.ok (decide ((⟨a,b,c,d⟩:Qx)=⟨a',b',c',d'⟩)) w:=by
 have u3:=Tryz.underlying3;have hS:Tryz.prog.underlying NT=some (.struct (Tryz.prog.fieldsOf NT)):=by kernel_rfl
 have hp:Tryz.prog.stoodInHeld NT=false:=by kernel_rfl
 rw[show(10000:Nat)=9999+1 from rfl,run_equalIn_agg w 9999 NT _ _ hS hp];simp only[Program.fieldsOf,Tryz.underlying108];go_simp;by_cases h1:a=a' <;> by_cases h2:b=b' <;> by_cases h3:c=c' <;> by_cases h4:d=d' <;> simp[h1,h2,h3,h4]
theorem QOw (l:List Qx)(v:Value)(x:Qx)(w:World)(h:QJi w v l):
  Calls Tryz.prog 168 #[v,.agg #[iv x.kind,iv x.fn,iv x.bl,iv x.st]] w (IntQ (idxI l x) w):=by
 obtain⟨a,c,rfl,hn,-,-,hc⟩:=h.cell;have HC:=Zh hc;obtain⟨n,hl⟩:=Ze l.length;rw[hl] at hn ⊢;have HL:=Zh hl;unfold maxLen at hn;obtain⟨z,hz⟩:=Ze w.heap.size;obtain⟨W,hW⟩:=Ze (w.alloc (.cells #[iv x.kind,iv x.fn,iv x.bl,iv x.st] NT));have HPB:=Zh (show W.heap[z]? = some (.cells #[iv x.kind,iv x.fn,iv x.bl,iv x.st] NT (0,0)) by rw[←hW,←hz];exact heap_alloc_new _ _);have BW:=Zh (show Below z w W by rw[←hW,←hz];exact Zb);have HWW:=Zh hW;have HZ:=Zh hz;clear hc h hl hW;go_enter Tryz.func168,Tryz.ntmps168;go_upto_region 1 with(fail)
 rw[show w.alloc (.cells #[iv x.kind,iv x.fn,iv x.bl,iv x.st] NT)=W from HWW.o]
 try rw[hz]
 go_wp2;go_loopw [5] (fun y wr=>∃k:Nat,k≤n∧y=.int .i64 k∧(∃m,wr=W.drewN m)∧Hid (x∉l.take k)) (fun y _=>n-(intOf y).toNat)
 case atStart=>exact⟨0,Nat.zero_le _,rfl,⟨0,rfl⟩,by unfold Hid;simp⟩
 case round=>
  obtain⟨k,hk,rfl,⟨m,rfl⟩,HNI⟩:=hrel;by_cases hlt:k<n
  ·obtain⟨y,hy⟩:∃y,l[k]? = some y:=⟨_,List.getElem?_eq_getElem (by rw[HL.o];exact hlt)⟩;obtain⟨b1,o1,rfl,hb1,g0,g1,g2,g3⟩:=HC.o k y hy;have G:∀o,W.cell? ⟨b1,o,none⟩=w.cell? ⟨b1,o,none⟩:=fun o=>BW.o.cell (p:=⟨b1,o,none⟩) (by show b1<z;omega)
   rw[←G] at g0 g1 g2 g3;obtain⟨x0,x1,x2,x3⟩:=Qt HPB.o;clear G;go_upto_region 4 with(fail)
   by_cases hxy:y=x
   ·have HEQ:∀w,(Op.equalIn 10000 NT (.agg #[iv y.kind,iv y.fn,iv y.bl,iv y.st]) (.agg #[iv x.kind,iv x.fn,iv x.bl,iv x.st])).run Tryz.prog w=.ok true w:=fun w=>(QUx _ _ _ _ _ _ _ _ w).trans (by rw[show(⟨y.kind,y.fn,y.bl,y.st⟩:Qx)=⟨x.kind,x.fn,x.bl,x.st⟩ by rw[hxy]];simp)
    have HK:=Zh (show idxI l x=(k:Int) from hxy▸Qse hy (hxy▸HNI.o));have hG:Tryz.prog.eqGuardType Tryz.prog.depth NT=false:=by kernel_rfl
    clear hy hxy;go_region_law (fail)
    all_goals
     go_wp2;go_ret;exact⟨Qob HK.o.symm,by rw[HZ.o];exact Qp BW.o _⟩
   ·have HEQ:∀w,(Op.equalIn 10000 NT (.agg #[iv y.kind,iv y.fn,iv y.bl,iv y.st]) (.agg #[iv x.kind,iv x.fn,iv x.bl,iv x.st])).run Tryz.prog w=.ok false w:=fun w=>(QUx _ _ _ _ _ _ _ _ w).trans (by rw[decide_eq_false (show ¬(⟨y.kind,y.fn,y.bl,y.st⟩:Qx)=⟨x.kind,x.fn,x.bl,x.st⟩ from hxy)])
    have HN1:=Zh (show x∉l.take (k+1) by
     rw[List.take_add_one,hy];intro h;rcases List.mem_append.1 h with h|h
     ·exact HNI.o h
     ·simp at h;exact hxy h.symm)
    have hG:Tryz.prog.eqGuardType Tryz.prog.depth NT=false:=by kernel_rfl
    clear hy hxy;go_region_law (fail)
    all_goals
     go_wp2;go_roundw
     case rel=>exact⟨k+1,by omega,by go_num,⟨_,rfl⟩,HN1⟩
     case measure=>simp[intOf];omega
  ·have HK:=Zh (show idxI l x = -1 by
    unfold idxI;rw[if_neg (fun h=>HNI.o (by rwa [List.take_of_length_le (by rw[HL.o];omega)]))])
   go_wp2;go_ret;exact⟨Qob HK.o.symm,by rw[HZ.o];exact Qp BW.o _⟩
theorem Qix (l:List Qx)(v:Value)(f b s:Int)(w:World)(h:QJi w v l):
  Calls Tryz.prog 132 #[v,iv f,iv b,iv s] w (IntQ (idxI l ⟨3,f,b,s⟩) w):=by
 have K:=Zh (QOw l v ⟨3,f,b,s⟩ w h);clear h;go_enter Tryz.func132,Tryz.ntmps132;go_wp2_with fail;refine K.o.mono ?_;rintro e w' ⟨rfl,b⟩;go_wp2;go_ret;exact⟨rfl,b⟩
def QAy (a b:Int)(w:World)(e:Ending)(w':World):Prop:=e=.returned (.tuple #[iv a,iv b])∧Below w.heap.size w w'
theorem Qdy (l:List Qx)(v:Value)(f:Int)(w:World)(h:QJi w v l):
  Calls Tryz.prog 133 #[v,iv f] w (QAy (idxI l ⟨1,f,-1,-1⟩) (idxI l ⟨2,f,-1,-1⟩) w):=by
 have K1:=Zh (QOw l v ⟨1,f,-1,-1⟩ w h);have K2:=Zh (show ∀x,Below w.heap.size w x→Calls Tryz.prog 168 #[v,.agg #[iv 2,iv f,iv (-1),iv (-1)]] x (IntQ (idxI l ⟨2,f,-1,-1⟩) x) from fun x b=>QOw l v ⟨2,f,-1,-1⟩ x (h.below b));clear h;go_enter Tryz.func133,Tryz.ntmps133;go_wp2_with fail;refine K1.o.mono ?_;rintro e w1 ⟨rfl,b1⟩;have B1:=Zh b1;clear b1;go_wp2_with fail;refine(K2.o w1 B1.o).mono ?_;rintro e w2 ⟨rfl,b2⟩;have B2:=Zh (B1.o.trans (b2.mono B1.o.size));clear b2;go_wp2;exact bodyPost_ret (v:=.tuple #[iv (idxI l ⟨1,f,-1,-1⟩),iv (idxI l ⟨2,f,-1,-1⟩)]) (by simp[results,Tryz.results133,go_sem]) rfl ⟨rfl,B2.o⟩
theorem Qjx {w:World}(p:List Qo)(v:Value)(x:Str)(h:QAa w v p):
  Calls Tryz.prog 134 #[.agg #[v],sv x] w (IntQ (idxI (QRc p) x) w):=by
 obtain⟨a,c,rfl,hn,hc⟩:=h.cell;have HC:=Zh hc;obtain⟨n,hl⟩:=Ze p.length;rw[hl] at hn ⊢;have HL:=Zh hl;unfold maxLen at hn;obtain⟨z,hz⟩:=Ze w.heap.size;obtain⟨W,hW⟩:=Ze (w.alloc (.cells #[.slice a n c] 25));have HPB:=Zh (show W.heap[z]? = some (.cells #[.slice a n c] 25 (0,0)) by rw[←hW,←hz];exact heap_alloc_new _ _);have BW:=Zh (show Below z w W by rw[←hW,←hz];exact Zb);have HWW:=Zh hW;have HZ:=Zh hz;have HLN:=Zh (show(QRc p).length=n by unfold QRc;rw[List.length_map,hl]);clear h hc hl hW;have x0:=(Qd HPB.o).1 0;simp at x0;go_enter Tryz.func134,Tryz.ntmps134;go_upto_region 1 with(fail)
 rw[show w.alloc (.cells #[.slice a n c] 25)=W from HWW.o]
 try rw[hz]
 go_wp2;go_loopw [5] (fun y wr=>∃k:Nat,k≤n∧y=.int .i64 k∧W=wr∧Hid (x∉(QRc p).take k)) (fun y _=>n-(intOf y).toNat)
 case atStart=>exact⟨0,Nat.zero_le _,rfl,rfl,by unfold Hid;simp⟩
 case round=>
  obtain⟨k,hk,rfl,rfl,HNI⟩:=hrel;by_cases hlt:k<n
  ·obtain⟨f,hf⟩:∃f,p[k]? = some f:=⟨_,List.getElem?_eq_getElem (by rw[HL.o];exact hlt)⟩;obtain⟨b1,o1,bv,rfl,hb1,g0,-,-⟩:=HC.o k f hf;have g0:=(BW.o.cell (p:=⟨b1,o1+k*2,none⟩) (by show b1<z;omega)).trans g0;have hy:(QRc p)[k]? = some f.name:=by unfold QRc;rw[List.getElem?_map,hf];rfl
   by_cases hxy:f.name=x
   ·have HK:=Zh (show idxI (QRc p) x=(k:Int) from hxy▸Qse hy (hxy▸HNI.o));rw[hxy] at g0;clear hy hxy hf;go_wp2;go_ret;exact⟨Qob HK.o.symm,by rw[HZ.o];exact BW.o⟩
   ·have HN1:=Zh (show x∉(QRc p).take (k+1) by
     rw[List.take_add_one,hy];intro h;rcases List.mem_append.1 h with h|h
     ·exact HNI.o h
     ·simp at h;exact hxy h.symm)
    have he1:(f.name==x)=false:=by simpa using hxy
    clear hy hxy hf;go_wp2;go_roundw
    case rel=>exact⟨k+1,by omega,by go_num,(by first|rfl|trivial),HN1⟩
    case measure=>simp[intOf];omega
  ·have HK:=Zh (show idxI (QRc p) x = -1 by
    unfold idxI;rw[if_neg (fun h=>HNI.o (by rwa [List.take_of_length_le (by rw[HLN.o];omega)]))])
   go_wp2;go_ret;exact⟨Qob HK.o.symm,by rw[HZ.o];exact BW.o⟩
end
end Go.Proofs.YtijekimobahgpaaGreatDoor
