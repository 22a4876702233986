/- A part of the proof. -/
import Derived.Test.YtijekimobahgpaaGreatDoorVa30
import Derived.Laws.AppendOwnNone
set_option linter.unusedVariables false
set_option linter.unusedSimpArgs false
set_option linter.unusedSectionVars false
set_option maxRecDepth 100000
set_option maxHeartbeats 16000000
namespace Go.Proofs.YtijekimobahgpaaGreatDoor
section
namespace R
open Go.RowKit
variable [Base]
theorem PSt.ty {B bp:Nat}{T:List Tok}{s:PS}{w:World}(h:PSt B bp T s w):tyAt w bp=some 227:=by
 obtain⟨a,c,hb,_⟩:=h.blk;exact Qv hb (by have:=h.kw.bs;have:=h.ge;omega)
theorem PSt.setOther {B bp:Nat}{T:List Tok}{s:PS}{w:World}(h:PSt B bp T s w){b o:Nat}{U:TypeId}(hb:tyAt w b=some U)(hU:232≠U)(hne:b≠bp)(hB:B≤b)(v:Value):PSt B bp T s (w.setCell ⟨b,o,none⟩ v):=
 h.keep (Below.heap_setCell _ _ _ _ (Ne.symm hne)) (fun k hk=>Below.heap_setCell _ _ _ _ (by show k≠b;omega)) (Qf.setCell hb hU)
structure StL (B bp R:Nat)(T:List Tok)(w0:World)(s:PS)(w:World)(x0 x1 x2 x3:Value):Prop where
 p:PSt B bp T s w
 but:But bp w0 w
 size:w0.heap.size=R
 lt:bp<R
 res:w.heap[R]? = some QCh
 loc:w.heap[R+1]? = some (.cells #[x0,x1,x2,x3] 94 (0,0))
section
variable {B bp R:Nat} {T:List Tok} {w0 w w':World} {s s':PS} {x0 x1 x2 x3:Value}
theorem StL.call (h:StL B bp R T w0 s w x0 x1 x2 x3)(hp:PSt B bp T s' w')(hb:But bp w w'):StL B bp R T w0 s' w' x0 x1 x2 x3:=
 ⟨hp,h.but.trans hb,h.size,h.lt,hb.blk h.res (by have:=h.lt;omega),hb.blk h.loc (by have:=h.lt;omega)⟩
theorem StL.alloc (h:StL B bp R T w0 s w x0 x1 x2 x3)(o:Obj):StL B bp R T w0 s (w.alloc o) x0 x1 x2 x3:=h.call (h.p.alloc o) ((But.refl _ _).alloc o)
theorem StL.drewN (h:StL B bp R T w0 s w x0 x1 x2 x3)(n:Nat):StL B bp R T w0 s (w.drewN n) x0 x1 x2 x3:=h.call (h.p.drewN n) ((But.refl _ _).drewN n)
theorem StL.put (h:StL B bp R T w0 s w x0 x1 x2 x3)(o:Nat)(v:Value){y0 y1 y2 y3:Value}(hv:(w.setCell ⟨R+1,o,none⟩ v).heap[R+1]? = some (.cells #[y0,y1,y2,y3] 94 (0,0))):StL B bp R T w0 s (w.setCell ⟨R+1,o,none⟩ v) y0 y1 y2 y3:=
 ⟨h.p.setOther (Qv h.loc (by show Base.b≤R+1;have:=h.p.kw.bs;have:=h.p.ge;have:=h.lt;omega)) ZD (by have:=h.lt;omega) (by have:=h.lt;have:=h.p.ge;omega) v,h.but.setCell _ (.inr (by have:=h.size;show w0.heap.size≤R+1;omega)) v,h.size,h.lt,
  (Below.heap_setCell _ _ _ _ (by show R≠R+1;omega)).trans h.res,hv⟩
theorem StL.set0 (h:StL B bp R T w0 s w x0 x1 x2 x3)(v:Value):StL B bp R T w0 s (w.setCell ⟨R+1,0,none⟩ v) v x1 x2 x3:=h.put 0 v (by simp[World.setCell,Array.getElem?_modify,h.loc])
theorem StL.set1 (h:StL B bp R T w0 s w x0 x1 x2 x3)(v:Value):StL B bp R T w0 s (w.setCell ⟨R+1,1,none⟩ v) x0 v x2 x3:=h.put 1 v (by simp[World.setCell,Array.getElem?_modify,h.loc])
theorem StL.set2 (h:StL B bp R T w0 s w x0 x1 x2 x3)(v:Value):StL B bp R T w0 s (w.setCell ⟨R+1,2,none⟩ v) x0 x1 v x3:=h.put 2 v (by simp[World.setCell,Array.getElem?_modify,h.loc])
theorem StL.set3 (h:StL B bp R T w0 s w x0 x1 x2 x3)(v:Value):StL B bp R T w0 s (w.setCell ⟨R+1,3,none⟩ v) x0 x1 x2 v:=h.put 3 v (by simp[World.setCell,Array.getElem?_modify,h.loc])
theorem StL.cells (h:StL B bp R T w0 s w x0 x1 x2 x3):(w.cell? ⟨R+1,0,none⟩=some x0∧w.cell? ⟨R+1,1,none⟩=some x1∧w.cell? ⟨R+1,2,none⟩=some x2∧w.cell? ⟨R+1,3,none⟩=some x3)∧∀o,w.frozen? ⟨R+1,o,none⟩=false:=
 ⟨⟨(Qd h.loc).1 0,(Qd h.loc).1 1,(Qd h.loc).1 2,(Qd h.loc).1 3⟩,(Qd h.loc).2⟩
theorem StL.rescells (h:StL B bp R T w0 s w x0 x1 x2 x3):(w.cell? ⟨R,0,none⟩=some (.int .i64 0)∧w.cell? ⟨R,1,none⟩=some (.string ⟨#[]⟩)∧w.cell? ⟨R,2,none⟩=some (.slice none 0 0)∧w.cell? ⟨R,3,none⟩=some (.slice none 0 0))∧∀o,w.frozen? ⟨R,o,none⟩=false:=
 ⟨⟨(Qd h.res).1 0,(Qd h.res).1 1,(Qd h.res).1 2,(Qd h.res).1 3⟩,(Qd h.res).2⟩
end
def Qze (B bp:Nat)(T:List Tok)(s:PS)(w:World)(e:Ending)(w':World):Prop:=
 ∃op d u t,e=.returned (.agg #[.int .i64 op,sv d,u,t])∧u.oneCell'=true∧t.oneCell'=true∧PSt B bp T (QQb T s) w'∧But bp w w' ∧
  (QY T s=true→(QQb T s).err=0→QZa w' [.int .i64 op,sv d,u,t] (QTa T s).1)
theorem QBd {B bp R:Nat}{T:List Tok}{w0 w:World}{s s1:PS}{op:Int}{d:Str}{u t:Value}(h:StL B bp R T w0 s1 w (.int .i64 op) (sv d) u t)(hs:QQb T s=s1)(hu:u.oneCell'=true)(ht:t.oneCell'=true)(hc:QY T s=true→s1.err=0→op=(QTa T s).1.op∧d=(QTa T s).1.dfn∧Qea w u (QTa T s).1.uses∧Qea w t (QTa T s).1.targets)(y0 y1 y2 y3:Value):
  Qze B bp T s w0 (.returned (.agg #[.int .i64 op,sv d,u,t])) ((((w.setCell ⟨R,0,none⟩ y0).setCell ⟨R,1,none⟩ y1).setCell ⟨R,2,none⟩ y2).setCell ⟨R,3,none⟩ y3):=by
 have hlt:=h.lt;have hge:=h.p.ge;have hbs:=h.p.kw.bs;have hsz:=h.size;have ty (x:World) (y:Value) (o:Nat):tyAt (x.setCell ⟨R,o,none⟩ y) R=tyAt x R:=by
  unfold tyAt;simp only[World.setCell,Array.getElem?_modify,if_true]
  cases x.heap[R]? with
 |none=>rfl
 |some o=>cases o <;> rfl
 have t0:tyAt w R=some 94:=Qv h.res;have q (x:World) (hx:PSt B bp T s1 x) (hty:tyAt x R=some 94) (y:Value) (o:Nat):PSt B bp T s1 (x.setCell ⟨R,o,none⟩ y):=hx.setOther hty ZD ZO ZO y;have hS (x:World) (y:Value) (o:Nat) (hh:tyAt x R=some 94):Qf 9 x (x.setCell ⟨R,o,none⟩ y):=Qf.setCell (U:=94) hh ZD;have key:Qf 9 w ((((w.setCell ⟨R,0,none⟩ y0).setCell ⟨R,1,none⟩ y1).setCell ⟨R,2,none⟩ y2).setCell ⟨R,3,none⟩ y3):=
  (((hS _ _ _ t0).trans (hS _ _ _ (by rw[ty];exact t0))).trans (hS _ _ _ (by rw[ty,ty];exact t0))).trans (hS _ _ _ (by rw[ty,ty,ty];exact t0))
 refine⟨op,d,u,t,rfl,hu,ht,?_,?_,fun h1 h2=>?_⟩
 ·rw[hs];exact q _ (q _ (q _ (q _ h.p t0 _ _) (by rw[ty];exact t0) _ _) (by rw[ty,ty];exact t0) _ _) (by rw[ty,ty,ty];exact t0) _ _
 ·exact(((h.but.setCell _ (.inr (by show w0.heap.size≤R;omega)) _).setCell _ (.inr (by show w0.heap.size≤R;omega)) _).setCell _ (.inr (by show w0.heap.size≤R;omega)) _).setCell _ (.inr (by show w0.heap.size≤R;omega)) _
 ·rw[hs] at h2;obtain⟨e1,e2,e3,e4⟩:=hc h1 h2;exact⟨u,t,by rw[e1,e2],e3.same key,e4.same key⟩
theorem QCc {B bp:Nat}{T:List Tok}{s:PS}{w:World}(h:PSt B bp T s w):StL B bp w.heap.size T w s ((w.alloc QCh).alloc QCh) (.int .i64 0) (.string ⟨#[]⟩) (.slice none 0 0) (.slice none 0 0):=by
 have a1:=heap_alloc_new w QCh;have a2:=heap_alloc_new (w.alloc QCh) QCh;rw[World.size_alloc] at a2;exact⟨(h.alloc _).alloc _,((But.refl _ _).alloc _).alloc _,rfl,h.lt,Qfa _ a1,a2⟩
theorem StL.str {B bp R:Nat}{T:List Tok}{w0 w w':World}{s:PS}{x0 x1 x2 x3:Value}(l:StL B bp R T w0 s w x0 x1 x2 x3)(hb:But bp w w'):Qf 9 w w':=Qf.but hb (by rw[l.p.ty];decide) (by have:=l.p.kw.bs;have:=l.p.ge;omega)
theorem StL.sstr {B bp R:Nat}{T:List Tok}{w0 w:World}{s:PS}{x0 x1 x2 x3:Value}(l:StL B bp R T w0 s w x0 x1 x2 x3)(o:Nat)(v:Value):Qf 9 w (w.setCell ⟨R+1,o,none⟩ v):=Qf.setCell (U:=94) (Qv l.loc (by show Base.b≤R+1;have:=l.p.kw.bs;have:=l.p.ge;have:=l.lt;omega)) ZD
theorem StL.next {B bp R:Nat}{T:List Tok}{w0 w:World}{s:PS}{x0 x1 x2 x3:Value}(h:StL B bp R T w0 s w x0 x1 x2 x3)(hle:s.at_+1≤T.length):StL B bp R T w0 s.step (w.setCell ⟨bp,1,none⟩ (.int .i64 ((s.at_:Int)+1))) x0 x1 x2 x3:=
 h.call (h.p.setAt (s.at_+1) hle) ((But.refl bp w).setCell ⟨bp,1,none⟩ (.inl rfl) _)
theorem QHe (x:Str):(opOf x=2→x=[117,115,101])∧(opOf x=3→x=[99,97,108,108])∧(opOf x=4→x=[115,111,117,114,99,101])∧(opOf x=5→x=[115,105,110,107])∧(opOf x=6→x=[115,97,110,105,116,105,122,101])∧(opOf x=7→x=[103,111,116,111])∧(opOf x=8→x=[98,114,97,110,99,104])∧(opOf x=9→x=[114,101,116,117,114,110]):=by
 unfold opOf
 repeat' split
 all_goals simp_all
theorem PSt.tok {B bp:Nat}{T:List Tok}{s:PS}{w:World}(h:PSt B bp T s w){t:Tok}(ht:T[s.at_]? = some t):
  ∃tb off c,w.cell? ⟨bp,0,none⟩=some (.slice (some ⟨tb,off,none⟩) T.length c)∧w.cell? ⟨bp,1,none⟩=some (.int .i64 s.at_)∧w.frozen? ⟨bp,1,none⟩=false∧w.cell? ⟨tb,off+s.at_*4+1,none⟩=some (sv t.text)∧s.at_<T.length:=by
 obtain⟨a,c,hb,hT⟩:=h.blk;have c0:=(Qd hb).1 0;have c1:=(Qd hb).1 1;simp at c0 c1;obtain⟨a',c',e1,hml,_,_,hcell⟩:=QFb.form hT;injection e1 with e1 e2 e3
 subst e1 e3;obtain⟨tb,off,rfl,htb,_,h4⟩:=hcell s.at_ t ht;exact⟨tb,off,c,c0,c1,(Qd hb).2 1,h4 1 ZO,(List.getElem?_eq_some_iff.1 ht).1⟩
theorem Qcl {B bp:Nat}{T:List Tok}{s:PS}{w:World}(h:PSt B bp T s w)(hT:T.length≤1000000)(hN:isN T s=false)(hS:QY T s=true)(hop:opOf (s.next T).text=9):
  Calls Tryz.prog 248 #[.pointer (some ⟨bp,0,none⟩)] w (Qze B bp T s w):=by
 have hlt:=h.lt;have H:=Zh h;have hT':=Zh hT;have L0:=Zh (QCc h);clear h;go_enter Tryz.func248,Tryz.ntmps248;have HN:=Zh hN;have HS:=Zh hS;have HOP:=Zh hop;obtain⟨_,tk,htk,hen⟩:=Qld (QXc hS hN);have hyx:tk.text=[114,101,116,117,114,110]:=by rw[←hen];exact(QHe _).2.2.2.2.2.2.2 hop
 clear hN hS hop hen;go_wp2_with fail;refine(QCa L0.o.p).mono ?_;rintro e v1 ⟨rfl,hc,hb⟩;have L1:=Zh (L0.o.call hc hb);clear hc hb;rw[HN.o];obtain⟨tb,off,tc,p0,p1,pf,pt,hin⟩:=L1.o.p.tok htk;rw[hyx] at pt;have hle:=Zh (show s.at_+1≤T.length from hin);obtain⟨tn,htn⟩:=Ze T.length;rw[htn] at p0 hin hT;have hin2:(s.at_:Int)<(tn:Int):=by omega
 clear htn hyx htk;go_wp2;go_quiet (fail);have L2:=Zh ((L1.o.drewN nq).next hle.o);obtain⟨s1,hs1⟩:=Ze s.step;rw[hs1] at L2;have HS1:=Zh hs1;clear hs1;have ⟨⟨k0,k1,k2,k3⟩,kf⟩:=L2.o.cells;have L3:=Zh (L2.o.set0 (.int .i64 9));go_wp2_with fail;refine(QFc L3.o.p hT'.o).mono ?_;rintro e v4 ⟨rfl,hc,hb⟩;have L4:=Zh (L3.o.call hc hb);clear p0 p1 pf pt;clear hc hb;clear k0 k1 k2 k3 kf;have hst2:QQb T s=endM T (s1):=by unfold QQb QTa;rw[HS.o,HN.o,if_pos rfl];dsimp only;rw[HOP.o,HS1.o];simp
 have hval:(QTa T s).1=⟨9,[],[],[]⟩:=by unfold QTa;rw[HN.o];dsimp only;rw[HOP.o,HS1.o];simp
 have FIN:=Zh hst2;have VAL:=Zh hval;clear hst2 hval;have ⟨⟨k0,k1,k2,k3⟩,kf⟩:=L4.o.cells;have ⟨⟨j0,j1,j2,j3⟩,jf⟩:=L4.o.rescells;go_wp2;have G:=set4 L4.o.res (.int .i64 9) (.string ⟨#[]⟩) (.slice none 0 0) (.slice none 0 0);have ⟨gc,_⟩:=Qd G;refine bodyPost_ret (v:=.agg #[.int .i64 9,.string ⟨#[]⟩,.slice none 0 0,.slice none 0 0]) ?_ rfl ?_
 ·simp[results,Tryz.results248,go_sem,gc]
 ·exact QBd L4.o FIN.o rfl rfl (fun _ h0=>by rw[VAL.o];exact⟨rfl,rfl,Qg.nil,Qg.nil⟩) _ _ _ _
theorem QRn {B bp:Nat}{T:List Tok}{s:PS}{w:World}(h:PSt B bp T s w)(hT:T.length≤1000000)(hN:isN T s=false)(hS:QY T s=true)(hop:opOf (s.next T).text=4):
  Calls Tryz.prog 248 #[.pointer (some ⟨bp,0,none⟩)] w (Qze B bp T s w):=by
 have hlt:=h.lt;have H:=Zh h;have hT':=Zh hT;have L0:=Zh (QCc h);clear h;go_enter Tryz.func248,Tryz.ntmps248;have HN:=Zh hN;have HS:=Zh hS;have HOP:=Zh hop;obtain⟨_,tk,htk,hen⟩:=Qld (QXc hS hN);have hyx:tk.text=[115,111,117,114,99,101]:=by rw[←hen];exact(QHe _).2.2.1 hop
 clear hN hS hop hen;go_wp2_with fail;refine(QCa L0.o.p).mono ?_;rintro e v1 ⟨rfl,hc,hb⟩;have L1:=Zh (L0.o.call hc hb);clear hc hb;rw[HN.o];obtain⟨tb,off,tc,p0,p1,pf,pt,hin⟩:=L1.o.p.tok htk;rw[hyx] at pt;have hle:=Zh (show s.at_+1≤T.length from hin);obtain⟨tn,htn⟩:=Ze T.length;rw[htn] at p0 hin hT;have hin2:(s.at_:Int)<(tn:Int):=by omega
 clear htn hyx htk;go_wp2;go_quiet (fail);have L2:=Zh ((L1.o.drewN nq).next hle.o);obtain⟨s1,hs1⟩:=Ze s.step;rw[hs1] at L2;have HS1:=Zh hs1;clear hs1;go_wp2_with fail;refine(name_any L2.o.p hT'.o).mono ?_;rintro e v3 ⟨rfl,hc,hb⟩;have L3:=Zh (L2.o.call hc hb);clear p0 p1 pf pt;clear hc hb;have ⟨⟨k0,k1,k2,k3⟩,kf⟩:=L3.o.cells;obtain⟨nv,hnv⟩:=Ze (Qib T s1);rw[hnv];have HNV:=Zh hnv;clear hnv;have L4:=Zh (L3.o.set0 (.int .i64 4));have L5:=Zh (L4.o.set1 (sv nv));go_wp2_with fail;refine(QFc L5.o.p hT'.o).mono ?_;rintro e v6 ⟨rfl,hc,hb⟩;have L6:=Zh (L5.o.call hc hb);clear hc hb;clear k0 k1 k2 k3 kf;have hst2:QQb T s=endM T (Qhb T s1):=by unfold QQb QTa;rw[HS.o,HN.o,if_pos rfl];dsimp only;rw[HOP.o,HS1.o];simp
 have hval:(QTa T s).1=⟨4,nv,[],[]⟩:=by unfold QTa;rw[HN.o];dsimp only;rw[HOP.o,HS1.o];simp;exact HNV.o
 have FIN:=Zh hst2;have VAL:=Zh hval;clear hst2 hval;have ⟨⟨k0,k1,k2,k3⟩,kf⟩:=L6.o.cells;have ⟨⟨j0,j1,j2,j3⟩,jf⟩:=L6.o.rescells;go_wp2;have G:=set4 L6.o.res (.int .i64 4) (sv nv) (.slice none 0 0) (.slice none 0 0);have ⟨gc,_⟩:=Qd G;refine bodyPost_ret (v:=.agg #[.int .i64 4,sv nv,.slice none 0 0,.slice none 0 0]) ?_ rfl ?_
 ·simp[results,Tryz.results248,go_sem,gc]
 ·exact QBd L6.o FIN.o rfl rfl (fun _ h0=>by rw[VAL.o];exact⟨rfl,rfl,Qg.nil,Qg.nil⟩) _ _ _ _
theorem QQn {B bp:Nat}{T:List Tok}{s:PS}{w:World}(h:PSt B bp T s w)(hT:T.length≤1000000)(hN:isN T s=false)(hS:QY T s=true)(hop:opOf (s.next T).text=6):
  Calls Tryz.prog 248 #[.pointer (some ⟨bp,0,none⟩)] w (Qze B bp T s w):=by
 have hlt:=h.lt;have H:=Zh h;have hT':=Zh hT;have L0:=Zh (QCc h);clear h;go_enter Tryz.func248,Tryz.ntmps248;have HN:=Zh hN;have HS:=Zh hS;have HOP:=Zh hop;obtain⟨_,tk,htk,hen⟩:=Qld (QXc hS hN);have hyx:tk.text=[115,97,110,105,116,105,122,101]:=by rw[←hen];exact(QHe _).2.2.2.2.1 hop
 clear hN hS hop hen;go_wp2_with fail;refine(QCa L0.o.p).mono ?_;rintro e v1 ⟨rfl,hc,hb⟩;have L1:=Zh (L0.o.call hc hb);clear hc hb;rw[HN.o];obtain⟨tb,off,tc,p0,p1,pf,pt,hin⟩:=L1.o.p.tok htk;rw[hyx] at pt;have hle:=Zh (show s.at_+1≤T.length from hin);obtain⟨tn,htn⟩:=Ze T.length;rw[htn] at p0 hin hT;have hin2:(s.at_:Int)<(tn:Int):=by omega
 clear htn hyx htk;go_wp2;go_quiet (fail);have L2:=Zh ((L1.o.drewN nq).next hle.o);obtain⟨s1,hs1⟩:=Ze s.step;rw[hs1] at L2;have HS1:=Zh hs1;clear hs1;go_wp2_with fail;refine(name_any L2.o.p hT'.o).mono ?_;rintro e v3 ⟨rfl,hc,hb⟩;have L3:=Zh (L2.o.call hc hb);clear p0 p1 pf pt;clear hc hb;have ⟨⟨k0,k1,k2,k3⟩,kf⟩:=L3.o.cells;obtain⟨nv,hnv⟩:=Ze (Qib T s1);rw[hnv];have HNV:=Zh hnv;clear hnv;have L4:=Zh (L3.o.set0 (.int .i64 6));have L5:=Zh (L4.o.set1 (sv nv));go_wp2_with fail;refine(QFc L5.o.p hT'.o).mono ?_;rintro e v6 ⟨rfl,hc,hb⟩;have L6:=Zh (L5.o.call hc hb);clear hc hb;clear k0 k1 k2 k3 kf;have hst2:QQb T s=endM T (Qhb T s1):=by unfold QQb QTa;rw[HS.o,HN.o,if_pos rfl];dsimp only;rw[HOP.o,HS1.o];simp
 have hval:(QTa T s).1=⟨6,nv,[],[]⟩:=by unfold QTa;rw[HN.o];dsimp only;rw[HOP.o,HS1.o];simp;exact HNV.o
 have FIN:=Zh hst2;have VAL:=Zh hval;clear hst2 hval;have ⟨⟨k0,k1,k2,k3⟩,kf⟩:=L6.o.cells;have ⟨⟨j0,j1,j2,j3⟩,jf⟩:=L6.o.rescells;go_wp2;have G:=set4 L6.o.res (.int .i64 6) (sv nv) (.slice none 0 0) (.slice none 0 0);have ⟨gc,_⟩:=Qd G;refine bodyPost_ret (v:=.agg #[.int .i64 6,sv nv,.slice none 0 0,.slice none 0 0]) ?_ rfl ?_
 ·simp[results,Tryz.results248,go_sem,gc]
 ·exact QBd L6.o FIN.o rfl rfl (fun _ h0=>by rw[VAL.o];exact⟨rfl,rfl,Qg.nil,Qg.nil⟩) _ _ _ _
theorem QNn {B bp:Nat}{T:List Tok}{s:PS}{w:World}(h:PSt B bp T s w)(hT:T.length≤1000000)(hN:isN T s=false)(hS:QY T s=true)(hop:opOf (s.next T).text=5):
  Calls Tryz.prog 248 #[.pointer (some ⟨bp,0,none⟩)] w (Qze B bp T s w):=by
 have hlt:=h.lt;have H:=Zh h;have hT':=Zh hT;have L0:=Zh (QCc h);clear h;go_enter Tryz.func248,Tryz.ntmps248;have HN:=Zh hN;have HS:=Zh hS;have HOP:=Zh hop;obtain⟨_,tk,htk,hen⟩:=Qld (QXc hS hN);have hyx:tk.text=[115,105,110,107]:=by rw[←hen];exact(QHe _).2.2.2.1 hop
 clear hN hS hop hen;go_wp2_with fail;refine(QCa L0.o.p).mono ?_;rintro e v1 ⟨rfl,hc,hb⟩;have L1:=Zh (L0.o.call hc hb);clear hc hb;rw[HN.o];obtain⟨tb,off,tc,p0,p1,pf,pt,hin⟩:=L1.o.p.tok htk;rw[hyx] at pt;have hle:=Zh (show s.at_+1≤T.length from hin);obtain⟨tn,htn⟩:=Ze T.length;rw[htn] at p0 hin hT;have hin2:(s.at_:Int)<(tn:Int):=by omega
 clear htn hyx htk;go_wp2;go_quiet (fail);have L2:=Zh ((L1.o.drewN nq).next hle.o);obtain⟨s1,hs1⟩:=Ze s.step;rw[hs1] at L2;have HS1:=Zh hs1;clear hs1;go_wp2_with fail;refine(name_any L2.o.p hT'.o).mono ?_;rintro e v3 ⟨rfl,hc,hb⟩;have L3:=Zh (L2.o.call hc hb);clear p0 p1 pf pt;clear hc hb;obtain⟨nv,hnv⟩:=Ze (Qib T s1);rw[hnv];have HNV:=Zh hnv;clear hnv;have LA:=Zh (L3.o.alloc (.cells #[sv nv] 9));have UA:Hid (Qea (v3.alloc (.cells #[sv nv] 9)) (.slice (some ⟨v3.heap.size,0,none⟩) 1 1) [nv]):=Qg.new [sv nv] 1 rfl (by unfold maxLen;omega);have ⟨⟨k0,k1,k2,k3⟩,kf⟩:=LA.o.cells;have L4:=Zh (LA.o.set0 (.int .i64 5));have UA_4:=Zh (Qg.same UA.o (LA.o.sstr 0 (.int .i64 5)));have L5:=Zh (L4.o.set2 (.slice (some ⟨v3.heap.size,0,none⟩) 1 1));have UA_5:=Zh (Qg.same UA_4.o (L4.o.sstr 2 (.slice (some ⟨v3.heap.size,0,none⟩) 1 1)));go_wp2_with fail;refine(QFc L5.o.p hT'.o).mono ?_;rintro e v6 ⟨rfl,hc,hb⟩;have L6:=Zh (L5.o.call hc hb);have UA_6:=Zh (Qg.same UA_5.o (L5.o.str hb));clear hc hb;clear k0 k1 k2 k3 kf;have hst2:QQb T s=endM T (Qhb T s1):=by unfold QQb QTa;rw[HS.o,HN.o,if_pos rfl];dsimp only;rw[HOP.o,HS1.o];simp
 have hval:(QTa T s).1=⟨5,[],[nv],[]⟩:=by unfold QTa;rw[HN.o];dsimp only;rw[HOP.o,HS1.o];simp;exact HNV.o
 have FIN:=Zh hst2;have VAL:=Zh hval;clear hst2 hval;have ⟨⟨k0,k1,k2,k3⟩,kf⟩:=L6.o.cells;have ⟨⟨j0,j1,j2,j3⟩,jf⟩:=L6.o.rescells;go_wp2;have G:=set4 L6.o.res (.int .i64 5) (.string ⟨#[]⟩) (.slice (some ⟨v3.heap.size,0,none⟩) 1 1) (.slice none 0 0);have ⟨gc,_⟩:=Qd G;refine bodyPost_ret (v:=.agg #[.int .i64 5,.string ⟨#[]⟩,.slice (some ⟨v3.heap.size,0,none⟩) 1 1,.slice none 0 0]) ?_ rfl ?_
 ·simp[results,Tryz.results248,go_sem,gc]
 ·exact QBd L6.o FIN.o rfl rfl (fun _ h0=>by rw[VAL.o];exact⟨rfl,rfl,UA_6.o,Qg.nil⟩) _ _ _ _
theorem QOn {B bp:Nat}{T:List Tok}{s:PS}{w:World}(h:PSt B bp T s w)(hT:T.length≤1000000)(hN:isN T s=false)(hS:QY T s=true)(hop:opOf (s.next T).text=3):
  Calls Tryz.prog 248 #[.pointer (some ⟨bp,0,none⟩)] w (Qze B bp T s w):=by
 have hlt:=h.lt;have H:=Zh h;have hT':=Zh hT;have L0:=Zh (QCc h);clear h;go_enter Tryz.func248,Tryz.ntmps248;have HN:=Zh hN;have HS:=Zh hS;have HOP:=Zh hop;obtain⟨_,tk,htk,hen⟩:=Qld (QXc hS hN);have hyx:tk.text=[99,97,108,108]:=by rw[←hen];exact(QHe _).2.1 hop
 clear hN hS hop hen;go_wp2_with fail;refine(QCa L0.o.p).mono ?_;rintro e v1 ⟨rfl,hc,hb⟩;have L1:=Zh (L0.o.call hc hb);clear hc hb;rw[HN.o];obtain⟨tb,off,tc,p0,p1,pf,pt,hin⟩:=L1.o.p.tok htk;rw[hyx] at pt;have hle:=Zh (show s.at_+1≤T.length from hin);obtain⟨tn,htn⟩:=Ze T.length;rw[htn] at p0 hin hT;have hin2:(s.at_:Int)<(tn:Int):=by omega
 clear htn hyx htk;go_wp2;go_quiet (fail);have L2:=Zh ((L1.o.drewN nq).next hle.o);obtain⟨s1,hs1⟩:=Ze s.step;rw[hs1] at L2;have HS1:=Zh hs1;clear hs1;go_wp2_with fail;refine(name_any L2.o.p hT'.o).mono ?_;rintro e v3 ⟨rfl,hc,hb⟩;have L3:=Zh (L2.o.call hc hb);clear p0 p1 pf pt;clear hc hb;obtain⟨nv,hnv⟩:=Ze (Qib T s1);rw[hnv];have HNV:=Zh hnv;clear hnv;have LA:=Zh (L3.o.alloc (.cells #[sv nv] 9));have UA:Hid (Qea (v3.alloc (.cells #[sv nv] 9)) (.slice (some ⟨v3.heap.size,0,none⟩) 1 1) [nv]):=Qg.new [sv nv] 1 rfl (by unfold maxLen;omega);have ⟨⟨k0,k1,k2,k3⟩,kf⟩:=LA.o.cells;have L4:=Zh (LA.o.set0 (.int .i64 3));have UA_4:=Zh (Qg.same UA.o (LA.o.sstr 0 (.int .i64 3)));have L5:=Zh (L4.o.set3 (.slice (some ⟨v3.heap.size,0,none⟩) 1 1));have UA_5:=Zh (Qg.same UA_4.o (L4.o.sstr 3 (.slice (some ⟨v3.heap.size,0,none⟩) 1 1)));go_wp2_with fail;refine(QFc L5.o.p hT'.o).mono ?_;rintro e v6 ⟨rfl,hc,hb⟩;have L6:=Zh (L5.o.call hc hb);have UA_6:=Zh (Qg.same UA_5.o (L5.o.str hb));clear hc hb;clear k0 k1 k2 k3 kf;have hst2:QQb T s=endM T (Qhb T s1):=by unfold QQb QTa;rw[HS.o,HN.o,if_pos rfl];dsimp only;rw[HOP.o,HS1.o];simp
 have hval:(QTa T s).1=⟨3,[],[],[nv]⟩:=by unfold QTa;rw[HN.o];dsimp only;rw[HOP.o,HS1.o];simp;exact HNV.o
 have FIN:=Zh hst2;have VAL:=Zh hval;clear hst2 hval;have ⟨⟨k0,k1,k2,k3⟩,kf⟩:=L6.o.cells;have ⟨⟨j0,j1,j2,j3⟩,jf⟩:=L6.o.rescells;go_wp2;have G:=set4 L6.o.res (.int .i64 3) (.string ⟨#[]⟩) (.slice none 0 0) (.slice (some ⟨v3.heap.size,0,none⟩) 1 1);have ⟨gc,_⟩:=Qd G;refine bodyPost_ret (v:=.agg #[.int .i64 3,.string ⟨#[]⟩,.slice none 0 0,.slice (some ⟨v3.heap.size,0,none⟩) 1 1]) ?_ rfl ?_
 ·simp[results,Tryz.results248,go_sem,gc]
 ·exact QBd L6.o FIN.o rfl rfl (fun _ h0=>by rw[VAL.o];exact⟨rfl,rfl,Qg.nil,UA_6.o⟩) _ _ _ _
theorem QMn {B bp:Nat}{T:List Tok}{s:PS}{w:World}(h:PSt B bp T s w)(hT:T.length≤1000000)(hN:isN T s=false)(hS:QY T s=true)(hop:opOf (s.next T).text=7):
  Calls Tryz.prog 248 #[.pointer (some ⟨bp,0,none⟩)] w (Qze B bp T s w):=by
 have hlt:=h.lt;have H:=Zh h;have hT':=Zh hT;have L0:=Zh (QCc h);clear h;go_enter Tryz.func248,Tryz.ntmps248;have HN:=Zh hN;have HS:=Zh hS;have HOP:=Zh hop;obtain⟨_,tk,htk,hen⟩:=Qld (QXc hS hN);have hyx:tk.text=[103,111,116,111]:=by rw[←hen];exact(QHe _).2.2.2.2.2.1 hop
 clear hN hS hop hen;go_wp2_with fail;refine(QCa L0.o.p).mono ?_;rintro e v1 ⟨rfl,hc,hb⟩;have L1:=Zh (L0.o.call hc hb);clear hc hb;rw[HN.o];obtain⟨tb,off,tc,p0,p1,pf,pt,hin⟩:=L1.o.p.tok htk;rw[hyx] at pt;have hle:=Zh (show s.at_+1≤T.length from hin);obtain⟨tn,htn⟩:=Ze T.length;rw[htn] at p0 hin hT;have hin2:(s.at_:Int)<(tn:Int):=by omega
 clear htn hyx htk;go_wp2;go_quiet (fail);have L2:=Zh ((L1.o.drewN nq).next hle.o);obtain⟨s1,hs1⟩:=Ze s.step;rw[hs1] at L2;have HS1:=Zh hs1;clear hs1;go_wp2_with fail;refine(name_any L2.o.p hT'.o).mono ?_;rintro e v3 ⟨rfl,hc,hb⟩;have L3:=Zh (L2.o.call hc hb);clear p0 p1 pf pt;clear hc hb;obtain⟨nv,hnv⟩:=Ze (Qib T s1);rw[hnv];have HNV:=Zh hnv;clear hnv;have LA:=Zh (L3.o.alloc (.cells #[sv nv] 9));have UA:Hid (Qea (v3.alloc (.cells #[sv nv] 9)) (.slice (some ⟨v3.heap.size,0,none⟩) 1 1) [nv]):=Qg.new [sv nv] 1 rfl (by unfold maxLen;omega);have ⟨⟨k0,k1,k2,k3⟩,kf⟩:=LA.o.cells;have L4:=Zh (LA.o.set0 (.int .i64 7));have UA_4:=Zh (Qg.same UA.o (LA.o.sstr 0 (.int .i64 7)));have L5:=Zh (L4.o.set3 (.slice (some ⟨v3.heap.size,0,none⟩) 1 1));have UA_5:=Zh (Qg.same UA_4.o (L4.o.sstr 3 (.slice (some ⟨v3.heap.size,0,none⟩) 1 1)));go_wp2_with fail;refine(QFc L5.o.p hT'.o).mono ?_;rintro e v6 ⟨rfl,hc,hb⟩;have L6:=Zh (L5.o.call hc hb);have UA_6:=Zh (Qg.same UA_5.o (L5.o.str hb));clear hc hb;clear k0 k1 k2 k3 kf;have hst2:QQb T s=endM T (Qhb T s1):=by unfold QQb QTa;rw[HS.o,HN.o,if_pos rfl];dsimp only;rw[HOP.o,HS1.o];simp
 have hval:(QTa T s).1=⟨7,[],[],[nv]⟩:=by unfold QTa;rw[HN.o];dsimp only;rw[HOP.o,HS1.o];simp;exact HNV.o
 have FIN:=Zh hst2;have VAL:=Zh hval;clear hst2 hval;have ⟨⟨k0,k1,k2,k3⟩,kf⟩:=L6.o.cells;have ⟨⟨j0,j1,j2,j3⟩,jf⟩:=L6.o.rescells;go_wp2;have G:=set4 L6.o.res (.int .i64 7) (.string ⟨#[]⟩) (.slice none 0 0) (.slice (some ⟨v3.heap.size,0,none⟩) 1 1);have ⟨gc,_⟩:=Qd G;refine bodyPost_ret (v:=.agg #[.int .i64 7,.string ⟨#[]⟩,.slice none 0 0,.slice (some ⟨v3.heap.size,0,none⟩) 1 1]) ?_ rfl ?_
 ·simp[results,Tryz.results248,go_sem,gc]
 ·exact QBd L6.o FIN.o rfl rfl (fun _ h0=>by rw[VAL.o];exact⟨rfl,rfl,Qg.nil,UA_6.o⟩) _ _ _ _
end R
end
section
namespace R
open Go.RowKit
variable [Base]
theorem StL.grown {B bp R:Nat}{T:List Tok}{w0 w w':World}{s:PS}{x0 x1 x2 x3:Value}(h:StL B bp R T w0 s w x0 x1 x2 x3){v:Value}{n:Nat}{xs:List Value}(hg:w.grownBy w' v.ownBlock)(ho:w.ownsRow (R+2) 9 1 v n xs):StL B bp R T w0 s w' x0 x1 x2 x3:=by
 have hz:=Qb h.loc;have hbel:=Below.of_grown hg ho ZO;have hlt:=h.lt;have hsz:=h.size;exact⟨h.p.grown hg ho ZD ZO ZO,h.but.belowB hbel ZO,h.size,h.lt,(hbel.block R ZO).trans h.res,(hbel.block (R+1) ZO).trans h.loc⟩
theorem QKq {T:List Tok}{s:PS}(h:isK T 2 s=false):endM T (QNa T 4 [] (QBb (isK T 2 s) s)).2=s.fail 4∧(s.fail 4).err≠0:=by
 have he:=Qfd s (e:=4) ZD;rw[h];have e1:QBb false s=s.fail 4:=rfl;rw[e1,Qae (Qoh he)];unfold endM;rw[QUf he ZD,QEd he];exact⟨rfl,he⟩
theorem QPn {B bp:Nat}{T:List Tok}{s:PS}{w:World}(h:PSt B bp T s w)(hT:T.length≤1000000)(hN:isN T s=true):
  Calls Tryz.prog 248 #[.pointer (some ⟨bp,0,none⟩)] w (Qze B bp T s w):=by
 have hlt:=h.lt;have H:=Zh h;have hT':=Zh hT;have L0:=Zh (QCc h);clear h;go_enter Tryz.func248,Tryz.ntmps248;have HN:=Zh hN;have hst:QY T s=true:=by unfold QY;rw[hN];rfl
 have HS:=Zh hst;clear hN hst;go_wp2_with fail;refine(QCa L0.o.p).mono ?_;rintro e v1 ⟨rfl,hc,hb⟩;have L1:=Zh (L0.o.call hc hb);clear hc hb;rw[HN.o];go_wp2_with fail;refine(name_any L1.o.p hT'.o).mono ?_;rintro e v2 ⟨rfl,hc,hb⟩;have L2:=Zh (L1.o.call hc hb);clear hc hb;have ⟨⟨k0,k1,k2,k3⟩,kf⟩:=L2.o.cells;have e1:Qhb T s=s.step:=by unfold Qhb;rw[HN.o];rfl
 rw[e1] at L2;clear e1;obtain⟨nv,hnv⟩:=Ze (Qib T s);rw[hnv];have HNV:=Zh hnv;clear hnv;obtain⟨s1,hs1⟩:=Ze s.step;rw[hs1] at L2;have HS1:=Zh hs1;clear hs1;have L3:=Zh (L2.o.set0 (.int .i64 1));have L4:=Zh (L3.o.set1 (sv nv));go_wp2_with fail;refine(Qyg L4.o.p 2 ZD).mono ?_;rintro e v5 ⟨rfl,hc,hb⟩;have L5:=Zh (L4.o.call hc hb);clear hc hb;clear k0 k1 k2 k3 kf
 cases hk:isK T 2 s1
 ·have HK:=Zh hk;have hnk:=QKq hk;clear hk;go_wp2_with fail;refine(Qtb L5.o.p 4 ZD).mono ?_;rintro e v6 ⟨rfl,hc,hb⟩;have L6:=Zh (L5.o.call hc hb);clear hc hb;have hst2:QQb T s=s1.fail 4:=by unfold QQb QTa;rw[HS.o,HN.o,if_pos rfl,if_pos rfl];dsimp only;rw[HS1.o];exact hnk.1
  have FIN:=Zh hst2;have NK:=Zh hnk.2;clear hst2 hnk;have ⟨⟨k0,k1,k2,k3⟩,kf⟩:=L6.o.cells;have ⟨⟨j0,j1,j2,j3⟩,jf⟩:=L6.o.rescells;go_wp2;have G:=set4 L6.o.res (.int .i64 1) (sv nv) (.slice none 0 0) (.slice none 0 0);have ⟨gc,_⟩:=Qd G;refine bodyPost_ret (v:=.agg #[.int .i64 1,sv nv,.slice none 0 0,.slice none 0 0]) ?_ rfl ?_
  ·simp[results,Tryz.results248,go_sem,gc]
  ·exact QBd L6.o FIN.o rfl rfl (fun _ h0=>absurd h0 NK.o) _ _ _ _
 ·have HK:=Zh hk;have hle:=Zh (QKp (QDm ZD hk));have hin:=hle.o;clear hk;obtain⟨pa,pc,hpb,_⟩:=L5.o.p.blk;have p1:=(Qd hpb).1 1;have pf:=(Qd hpb).2 1;simp at p1;clear hpb;have L6:=Zh (L5.o.next hle.o);go_wp2_with fail;refine(QNq L6.o.p hT'.o).mono ?_;rintro e v7 ⟨ua,un,uc,rfl,hc,hb,ul,hul,hun,hu1,hu2⟩;have L7:=Zh (L6.o.call hc hb);have U:Hid ((QNa T 4 [] s1.step).2.err=0→Qea v7 (.slice ua un uc) (QNa T 4 [] s1.step).1):=fun h0=>by rw[←hu2 h0];exact hu1
  clear hul hun hu1 hu2 p1 pf;clear hc hb;have ⟨⟨k0,k1,k2,k3⟩,kf⟩:=L7.o.cells;obtain⟨r,hr⟩:=Ze (QNa T 4 [] s1.step);rw[hr] at L7 U;have HR:=Zh hr;clear hr;have L8:=Zh (L7.o.set2 (.slice ua un uc));have U2:=Zh (fun h0=>Qg.same (U.o h0) (L7.o.sstr 2 (.slice ua un uc)));go_wp2_with fail;refine(QFc L8.o.p hT'.o).mono ?_;rintro e v9 ⟨rfl,hc,hb⟩;have L9:=Zh (L8.o.call hc hb);have U3:=Zh (fun h0=>Qg.same (U2.o h0) (L8.o.str hb));clear hc hb;clear k0 k1 k2 k3 kf;have hs2:QBb (isK T 2 s1) s1=s1.step:=by rw[HK.o];rfl
  have hst2:QQb T s=endM T r.2:=by unfold QQb QTa;rw[HS.o,HN.o,if_pos rfl,if_pos rfl];dsimp only;rw[HS1.o,hs2,HR.o]
  have hval:(QTa T s).1=⟨1,nv,r.1,[]⟩:=by unfold QTa;rw[HN.o,if_pos rfl];dsimp only;rw[HS1.o,hs2,HR.o,HNV.o]
  have FIN:=Zh hst2;have VAL:=Zh hval;clear hst2 hval hs2;have ⟨⟨k0,k1,k2,k3⟩,kf⟩:=L9.o.cells;have ⟨⟨j0,j1,j2,j3⟩,jf⟩:=L9.o.rescells;go_wp2;have G:=set4 L9.o.res (.int .i64 1) (sv nv) (.slice ua un uc) (.slice none 0 0);have ⟨gc,_⟩:=Qd G;refine bodyPost_ret (v:=.agg #[.int .i64 1,sv nv,.slice ua un uc,.slice none 0 0]) ?_ rfl ?_
  ·simp[results,Tryz.results248,go_sem,gc]
  ·exact QBd L9.o FIN.o rfl rfl (fun _ h0=>by rw[VAL.o];exact⟨rfl,rfl,U3.o (Qrl h0),Qg.nil⟩) _ _ _ _
theorem Qdl {B bp:Nat}{T:List Tok}{s:PS}{w:World}(h:PSt B bp T s w)(hT:T.length≤1000000)(hN:isN T s=false)(hS:QY T s=true)(hop:opOf (s.next T).text=8):
  Calls Tryz.prog 248 #[.pointer (some ⟨bp,0,none⟩)] w (Qze B bp T s w):=by
 have hlt:=h.lt;have H:=Zh h;have hT':=Zh hT;have L0:=Zh (QCc h);clear h;go_enter Tryz.func248,Tryz.ntmps248;have HN:=Zh hN;have HS:=Zh hS;have HOP:=Zh hop;obtain⟨_,tk,htk,hen⟩:=Qld (QXc hS hN);have hyx:tk.text=[98,114,97,110,99,104]:=by rw[←hen];exact(QHe _).2.2.2.2.2.2.1 hop
 clear hN hS hop hen;go_wp2_with fail;refine(QCa L0.o.p).mono ?_;rintro e v1 ⟨rfl,hc,hb⟩;have L1:=Zh (L0.o.call hc hb);clear hc hb;rw[HN.o];obtain⟨tb,off,tc,p0,p1,pf,pt,hin⟩:=L1.o.p.tok htk;rw[hyx] at pt;have hle:=Zh (show s.at_+1≤T.length from hin);obtain⟨tn,htn⟩:=Ze T.length;rw[htn] at p0 hin hT;have hin2:(s.at_:Int)<(tn:Int):=by omega
 clear htn hyx htk;go_wp2;go_quiet (fail);have L2:=Zh ((L1.o.drewN nq).next hle.o);obtain⟨s1,hs1⟩:=Ze s.step;rw[hs1] at L2;have HS1:=Zh hs1;clear hs1;go_wp2_with fail;refine(name_any L2.o.p hT'.o).mono ?_;rintro e v3 ⟨rfl,hc,hb⟩;have L3:=Zh (L2.o.call hc hb);have hzz3:=hb.size;clear p0 p1 pf pt;clear hc hb;obtain⟨na,hnv⟩:=Ze (Qib T s1);rw[hnv];have Hna:=Zh hnv;clear hnv;have LAna:=Zh (L3.o.alloc (.cells #[sv na] 9));have Bna:Hid ((v3.alloc (.cells #[sv na] 9)).heap[v3.heap.size]? = some (.cells #[sv na] 9 (0,0))):=heap_alloc_new _ _;have hlona:=Qb L3.o.loc;have ⟨⟨k0,k1,k2,k3⟩,kf⟩:=LAna.o.cells;have L4:=Zh (LAna.o.set0 (.int .i64 8));have Bna':=Zh ((Below.heap_setCell (v3.alloc (.cells #[sv na] 9)) ⟨w.heap.size+1,0,none⟩ (.int .i64 8) v3.heap.size (by show v3.heap.size≠w.heap.size+1;omega)).trans Bna.o);clear Bna;have Bna:=Zh Bna'.o;clear Bna';have L5:=Zh (L4.o.set2 (.slice (some ⟨v3.heap.size,0,none⟩) 1 1));have Bna':=Zh ((Below.heap_setCell ((v3.alloc (.cells #[sv na] 9)).setCell ⟨w.heap.size+1,0,none⟩ (.int .i64 8)) ⟨w.heap.size+1,2,none⟩ (.slice (some ⟨v3.heap.size,0,none⟩) 1 1) v3.heap.size (by show v3.heap.size≠w.heap.size+1;omega)).trans Bna.o);clear Bna;have Bna:=Zh Bna'.o;clear Bna';have hsna:v3.heap.size+1≤(((v3.alloc (.cells #[sv na] 9)).setCell ⟨w.heap.size+1,0,none⟩ (.int .i64 8)).setCell ⟨w.heap.size+1,2,none⟩ (.slice (some ⟨v3.heap.size,0,none⟩) 1 1)).heap.size:=by simp
 have Hlona:=Zh hlona;have Hsna:=Zh hsna;clear hlona hsna;go_wp2_with fail;refine(name_any L5.o.p hT'.o).mono ?_;rintro e v6 ⟨rfl,hc,hb⟩;have L6:=Zh (L5.o.call hc hb);have hlona:=Hlona.o;have hsna:=Hsna.o;have hzz6:=hb.size;have Bna':=Zh (hb.blk Bna.o ZO);clear Bna;have Bna:=Zh Bna'.o;clear Bna';clear hc hb;clear k0 k1 k2 k3 kf;obtain⟨nb,hnv⟩:=Ze (Qib T (Qhb T s1));rw[hnv];have Hnb:=Zh hnv;clear hnv;have LAnb:=Zh (L6.o.alloc (.cells #[sv nb] 9));have Bnb:Hid ((v6.alloc (.cells #[sv nb] 9)).heap[v6.heap.size]? = some (.cells #[sv nb] 9 (0,0))):=heap_alloc_new _ _;have hltBnanb:v3.heap.size<v6.heap.size:=by have:=hzz6;omega
 have Bna':=Zh (Qfa (.cells #[sv nb] 9) Bna.o);clear Bna;have Bna:=Zh Bna'.o;clear Bna';have hlonb:=Qb L6.o.loc;have ⟨⟨k0,k1,k2,k3⟩,kf⟩:=LAnb.o.cells;have L7:=Zh (LAnb.o.set3 (.slice (some ⟨v6.heap.size,0,none⟩) 1 1));have Bna':=Zh ((Below.heap_setCell (v6.alloc (.cells #[sv nb] 9)) ⟨w.heap.size+1,3,none⟩ (.slice (some ⟨v6.heap.size,0,none⟩) 1 1) v3.heap.size (by show v3.heap.size≠w.heap.size+1;omega)).trans Bna.o);clear Bna;have Bna:=Zh Bna'.o;clear Bna';have Bnb':=Zh ((Below.heap_setCell (v6.alloc (.cells #[sv nb] 9)) ⟨w.heap.size+1,3,none⟩ (.slice (some ⟨v6.heap.size,0,none⟩) 1 1) v6.heap.size (by show v6.heap.size≠w.heap.size+1;omega)).trans Bnb.o);clear Bnb;have Bnb:=Zh Bnb'.o;clear Bnb';have hsnb:v6.heap.size+1≤((v6.alloc (.cells #[sv nb] 9)).setCell ⟨w.heap.size+1,3,none⟩ (.slice (some ⟨v6.heap.size,0,none⟩) 1 1)).heap.size:=by simp
 have Hlonb:=Zh hlonb;have Hsnb:=Zh hsnb;clear hlonb hsnb;have HltBnanb:=Zh hltBnanb;clear hltBnanb;clear hlona hsna;go_wp2_with fail;clear k0 k1 k2 k3 kf;have ⟨⟨k0,k1,k2,k3⟩,kf⟩:=L7.o.cells;refine QK (S:=fun w'=>w'.cell? ⟨w.heap.size+1,3,none⟩=some (.slice (some ⟨v6.heap.size,0,none⟩) 1 1)) (st:=7) ZK ?_;refine Zp 0 ?z1 k3 ?rz1 ?sz1
 case rz1=>intro w hS;go_simp;rfl
 case sz1=>
 refine Zp 1 ?z2 k3 ?rz2 ?sz2
 case rz2=>intro w hS;go_simp;rfl
 case sz2=>
 refine Zp 2 ?z3 k3 ?rz3 ?sz3
 case rz3=>intro w hS;go_simp;rfl
 case sz3=>
 refine Zt 3 ?_;refine Ql rfl ?_;go_wp2_with fail;refine(name_any (L7.o.drewN 1).p hT'.o).mono ?_;rintro e v8 ⟨rfl,hc,hb⟩;have hlona:=Hlona.o;have hlonb:=Hlonb.o;have hsnb:=Hsnb.o;have hltBnanb:=HltBnanb.o;have L8:=Zh ((L7.o.drewN 1).call hc hb);have Bna':=Zh ((But.undrew hb).blk Bna.o ZO);clear Bna;have Bna:=Zh Bna'.o;clear Bna';have Bnb':=Zh ((But.undrew hb).blk Bnb.o ZO);clear Bnb;have Bnb:=Zh Bnb'.o;clear Bnb';have hzb:=hb.size;clear k0 k1 k2 k3 kf;clear hc hb;have ⟨⟨k0,k1,k2,k3⟩,kf⟩:=L8.o.cells;obtain⟨nc,hnv⟩:=Ze (Qib T (Qhb T (Qhb T s1)));rw[hnv];have Hnc:=Zh hnv;clear hnv;go_wp2;refine⟨fun _=>k3,?_⟩;refine Zt 4 ?_;refine Ql rfl ?_;have k3a:=(((Below.refl v8.heap.size v8).alloc (Nat.le_refl _) (.cells #[sv nc] 9)).cell (p:=⟨w.heap.size+1,3,none⟩) (Qb L8.o.loc)).trans k3;have hzL:=Qb L8.o.loc;go_wp2;refine⟨fun _=>k3a,?_⟩;refine Zt 5 ?_;refine Ql rfl ?_;have OWN:=Zh ((Qgl Bnb.o ZO:World.ownsRow v8 (w.heap.size+2) 9 1 (.slice (some ⟨v6.heap.size,0,none⟩) 1 1) 1 [sv nb]))
 (refine Qcb [sv nc] rfl _ _ 86 rfl (w.heap.size+2) 9 _ 1 16 Tryz.underlying86 QGi rfl ZO _ 1 [sv nb] OWN.o rfl _ rfl ZS rfl rfl (by unfold maxLen;omega) ZO ZO ?_;intro g cap w6 hown1 hg1 hg2 hg3;have LG:=Zh (L8.o.grown hg1 OWN.o);have Bna':=Zh ((hg1.block v3.heap.size (Qb Bna.o) (by show some v3.heap.size≠some v6.heap.size;intro h;injection h with h;omega)).trans Bna.o);have SO:=Zh (Qg.of_owns hown1);clear hown1 hg1)
 clear Bna;have Bna:=Zh Bna'.o;clear Bna';clear Bnb;clear k0 k1 k2 k3 kf;clear k3a OWN;have ⟨⟨k0,k1,k2,k3⟩,kf⟩:=LG.o.cells;go_wp2;refine⟨fun _=>k3,?_⟩;refine Zp 6 ?z4 k3 ?rz4 ?sz4
 case rz4=>intro w hS;go_simp;rfl
 case sz4=>
 refine Zt 7 ?_;refine Ql rfl ?_;go_wp2;refine⟨fun h=>absurd rfl h,?_⟩;refine Qu ZK ?_ _;have L9:=Zh (LG.o.set3 (.slice (some ⟨g,0,none⟩) 2 cap));have TS_0:Hid (Qea (w6.setCell ⟨w.heap.size+1,3,none⟩ (.slice (some ⟨g,0,none⟩) 2 cap)) (.slice (some ⟨g,0,none⟩) 2 cap) [nb,nc]):=Qg.same SO.o (LG.o.sstr 3 _);have Bna':=Zh ((Below.heap_setCell w6 ⟨w.heap.size+1,3,none⟩ (.slice (some ⟨g,0,none⟩) 2 cap) v3.heap.size (by show v3.heap.size≠w.heap.size+1;omega)).trans Bna.o);clear Bna;have Bna:=Zh Bna'.o;clear Bna';go_wp2_with fail;refine(QFc L9.o.p hT'.o).mono ?_;rintro e v10 ⟨rfl,hc,hb⟩;have L10:=Zh (L9.o.call hc hb);have TS_10:=Zh (Qg.same TS_0.o (L9.o.str hb));have Bna':=Zh (hb.blk Bna.o ZO);clear Bna;have Bna:=Zh Bna'.o;clear Bna';clear hc hb;clear k0 k1 k2 k3 kf;have hst2:QQb T s=endM T (Qhb T (Qhb T (Qhb T s1))):=by unfold QQb QTa;rw[HS.o,HN.o,if_pos rfl];dsimp only;rw[HOP.o,HS1.o];simp
 have hval:(QTa T s).1=⟨8,[],[na],[nb,nc]⟩:=by unfold QTa;rw[HN.o];dsimp only;rw[HOP.o,HS1.o];simp;exact⟨Hna.o,Hnb.o,Hnc.o⟩
 have FIN:=Zh hst2;have VAL:=Zh hval;clear hst2 hval;have ⟨⟨k0,k1,k2,k3⟩,kf⟩:=L10.o.cells;have ⟨⟨j0,j1,j2,j3⟩,jf⟩:=L10.o.rescells;go_wp2;have G:=set4 L10.o.res (.int .i64 8) (.string ⟨#[]⟩) (.slice (some ⟨v3.heap.size,0,none⟩) 1 1) (.slice (some ⟨g,0,none⟩) 2 cap);have ⟨gc,_⟩:=Qd G;refine bodyPost_ret (v:=.agg #[.int .i64 8,.string ⟨#[]⟩,.slice (some ⟨v3.heap.size,0,none⟩) 1 1,.slice (some ⟨g,0,none⟩) 2 cap]) ?_ rfl ?_
 ·simp[results,Tryz.results248,go_sem,gc]
 ·exact QBd L10.o FIN.o rfl rfl (fun _ h0=>by rw[VAL.o];exact⟨rfl,rfl,QZr Bna.o,TS_10.o⟩) _ _ _ _
end R
end
section
namespace R
open Go.RowKit
variable [Base]
theorem wpList_append_sl {P:Program}{ops:Array Oper}{rest:List Oper}{o:Oper}{a:Act}{Q:Exit→Act→World→Prop}{w:World}(hgd:o.guard=none)(s x:Operand)(t:TypeId)(ho:o.op=.call { callee:=.builtin .append,args:=#[s,x],argTypes:=#[t,t] })(base:Nat)(e:TypeId)(z:Value)(size bytes:Nat)(ht:P.underlying t=some (.slice e))(hi:(P.info? e).map (fun i=>(i.zero,i.size,i.bytes))=some (some z,size,bytes))(hzs:z.cells.size=size)(hsz:0<size)(v:Value)(n:Nat)(xs:List Value)(hown:w.ownsRow base e size v n xs)(hs:a.eval s=v)(ax:Option Addr)(m c:Nat)(news:List Value)(hsl:Qg w e size (.slice ax m c) news)(hx:a.eval x=.slice ax m c)(h1:news.all Value.oneCell'=true)(h63:n+m≤maxLen)(hbytes:(n+m)*bytes≤140737488355328)(hbase:base≤w.heap.size)(h:∀v' w',w'.ownsRow base e size v' (n+m) (xs++news)→w.grownBy w' v.ownBlock→wpList P ops Q rest (a.put o.dst v') w'):
  wpList P ops Q (o::rest) a w:=by
 refine Go.Proofs.YtijekimobahgpaaGreatDoor.wpList_append_sl hgd s x t ho base e z size bytes ht hi hzs hsz v n xs hown hs _ m news hx hsl ?_ h1 h63 hbytes hbase (fun g c w' h2 h3=>h _ w' h2 h3);obtain⟨n',cap,h2,h3,h4,h5⟩:=hsl;rcases h5 with⟨⟨a',e1⟩,e2⟩|⟨b,off,cs,fr,e1,-⟩
 ·injection e1 with e1 e4 e5
  subst e2 e4;exact h2
 ·injection e1 with e1 e4 e5
  subst e4;exact h2
theorem Qsj {T:List Tok}(p:List Str):∀(m:Nat) (acc:List Str) (s:PS),QNa T m (p++acc) s=(p++(QNa T m acc s).1,(QNa T m acc s).2)
|0,acc,s=>rfl
|m+1,acc,s=>by
  cases h:isN T s
  ·rw[Qae h,Qae h]
  ·rw[Qsf h,Qsf h,List.append_assoc]
   exact Qsj p m _ _
theorem Qjq {T:List Tok}{s:PS}{na:Str}{r:List Str×PS}(hna:Qib T s=na)(hr:QNa T 3 [] (Qhb T s)=r):
  (if isN T s=true then QNa T 3 [Qib T s] s.step else ([],s.fail 4)).2=r.2∧(r.2.err=0→(if isN T s=true then QNa T 3 [Qib T s] s.step else ([],s.fail 4)).1=na::r.1):=by
 cases h:isN T s
 ·have he:=Qfd s (e:=4) ZD;have e1:Qhb T s=s.fail 4:=by unfold Qhb;rw[h];rfl
  rw[e1,Qae (Qoh he)] at hr;rw[if_neg ZD,←hr];exact⟨rfl,fun h0=>absurd h0 he⟩
 ·have e1:Qhb T s=s.step:=by unfold Qhb;rw[h];rfl
  rw[e1] at hr;rw[if_pos rfl,hna];have:=Qsj (T:=T) [na] 3 [] s.step;rw[List.append_nil] at this;rw[this,hr];exact⟨rfl,fun _=>rfl⟩
theorem Quq {B bp:Nat}{T:List Tok}{s:PS}{w:World}(h:PSt B bp T s w)(hT:T.length≤1000000)(hN:isN T s=false)(hS:QY T s=true)(hop:opOf (s.next T).text=2):
  Calls Tryz.prog 248 #[.pointer (some ⟨bp,0,none⟩)] w (Qze B bp T s w):=by
 have hlt:=h.lt;have H:=Zh h;have hT':=Zh hT;have L0:=Zh (QCc h);clear h;go_enter Tryz.func248,Tryz.ntmps248;have HN:=Zh hN;have HS:=Zh hS;have HOP:=Zh hop;obtain⟨_,tk,htk,hen⟩:=Qld (QXc hS hN);have hyx:tk.text=[117,115,101]:=by rw[←hen];exact(QHe _).1 hop
 clear hN hS hop hen;go_wp2_with fail;refine(QCa L0.o.p).mono ?_;rintro e v1 ⟨rfl,hc,hb⟩;have L1:=Zh (L0.o.call hc hb);clear hc hb;rw[HN.o];obtain⟨tb,off,tc,p0,p1,pf,pt,hin⟩:=L1.o.p.tok htk;rw[hyx] at pt;have hle:=Zh (show s.at_+1≤T.length from hin);obtain⟨tn,htn⟩:=Ze T.length;rw[htn] at p0 hin hT;have hin2:(s.at_:Int)<(tn:Int):=by omega
 clear htn hyx htk;go_wp2;go_quiet (fail);have L2:=Zh ((L1.o.drewN nq).next hle.o);obtain⟨s1,hs1⟩:=Ze s.step;rw[hs1] at L2;have HS1:=Zh hs1;clear hs1;go_wp2_with fail;refine(name_any L2.o.p hT'.o).mono ?_;rintro e v3 ⟨rfl,hc,hb⟩;have L3:=Zh (L2.o.call hc hb);clear p0 p1 pf pt;clear hc hb;obtain⟨na,hnv⟩:=Ze (Qib T s1);rw[hnv];have Hna:=Zh hnv;clear hnv;have LA:=Zh (L3.o.alloc (.cells #[sv na] 9));have Bna:Hid ((v3.alloc (.cells #[sv na] 9)).heap[v3.heap.size]? = some (.cells #[sv na] 9 (0,0))):=heap_alloc_new _ _;have Hlo:=Zh (Qb L3.o.loc);have ⟨⟨k0,k1,k2,k3⟩,kf⟩:=LA.o.cells;have L4:=Zh (LA.o.set0 (.int .i64 2));have Bna':=Zh ((Below.heap_setCell (v3.alloc (.cells #[sv na] 9)) ⟨w.heap.size+1,0,none⟩ (.int .i64 2) v3.heap.size (by have:=Hlo.o;show v3.heap.size≠w.heap.size+1;omega)).trans Bna.o);clear Bna;have Bna:=Zh Bna'.o;clear Bna';have L5:=Zh (L4.o.set2 (.slice (some ⟨v3.heap.size,0,none⟩) 1 1));have Bna':=Zh ((Below.heap_setCell ((v3.alloc (.cells #[sv na] 9)).setCell ⟨w.heap.size+1,0,none⟩ (.int .i64 2)) ⟨w.heap.size+1,2,none⟩ (.slice (some ⟨v3.heap.size,0,none⟩) 1 1) v3.heap.size (by have:=Hlo.o;show v3.heap.size≠w.heap.size+1;omega)).trans Bna.o);clear Bna;have Bna:=Zh Bna'.o;clear Bna';have Hs:Hid (v3.heap.size+1≤(((v3.alloc (.cells #[sv na] 9)).setCell ⟨w.heap.size+1,0,none⟩ (.int .i64 2)).setCell ⟨w.heap.size+1,2,none⟩ (.slice (some ⟨v3.heap.size,0,none⟩) 1 1)).heap.size):=by unfold Hid;simp
 go_wp2_with fail;clear k0 k1 k2 k3 kf;have ⟨⟨k0,k1,k2,k3⟩,kf⟩:=L5.o.cells;refine QK (S:=fun w'=>w'.cell? ⟨w.heap.size+1,2,none⟩=some (.slice (some ⟨v3.heap.size,0,none⟩) 1 1)) (st:=6) ZK ?_;refine Zp 0 ?z1 k2 ?rz1 ?sz1
 case rz1=>intro w hS;go_simp;rfl
 case sz1=>
 refine Zp 1 ?z2 k2 ?rz2 ?sz2
 case rz2=>intro w hS;go_simp;rfl
 case sz2=>
 refine Zp 2 ?z3 k2 ?rz3 ?sz3
 case rz3=>intro w hS;go_simp;rfl
 case sz3=>
 refine Zt 3 ?_;refine Ql rfl ?_;go_wp2_with fail;refine(Qks (L5.o.drewN 1).p hT'.o).mono ?_;rintro e v6 ⟨ua,un,uc,rfl,hc,hb,ul,hul,hun,hu1,hu2⟩;have L6:=Zh ((L5.o.drewN 1).call hc hb);have Bna':=Zh ((But.undrew hb).blk Bna.o (by have:=Hlo.o;omega));clear Bna;have Bna:=Zh Bna'.o;clear Bna';have hzb:=hb.size;have hz2:v3.heap.size+1≤v6.heap.size:=Nat.le_trans Hs.o hzb;have OWN:=Zh (Qgl Bna.o (by have:=Hlo.o;omega):World.ownsRow v6 (w.heap.size+2) 9 1 (.slice (some ⟨v3.heap.size,0,none⟩) 1 1) 1 [sv na]);have HU1:=Zh hu1;have HU2:=Zh hu2;have HUL:=Zh hul;clear k0 k1 k2 k3 kf;clear hc hb hu1 hu2 hul hzb;have ⟨⟨k0,k1,k2,k3⟩,kf⟩:=L6.o.cells;obtain⟨r,hr⟩:=Ze (QNa T 3 [] (Qhb T s1));rw[hr] at L6 HU2;have HR:=Zh hr;clear hr;go_wp2;refine⟨fun _=>k2,?_⟩;refine Zt 4 ?_;refine Ql rfl ?_;have hlo:=Qb L6.o.loc;refine wpList_append_sl rfl _ _ 86 rfl (w.heap.size+2) 9 _ 1 16 Tryz.underlying86 QGi rfl ZO _ 1 [sv na] OWN.o rfl ua un uc (ul.map sv) HU1.o rfl (by simp[List.all_eq_true,sv,Value.oneCell']) (by unfold maxLen;omega) ZO ZO ?_;intro vv w6 hown1 hg1;obtain⟨xa,xc,rfl⟩:=Qkd hown1;have LG:=Zh (L6.o.grown hg1 OWN.o);have SO:=Zh (Qg.of_owns hown1);clear hown1 hg1;clear k0 k1 k2 k3 kf;clear OWN hlo hz2;have ⟨⟨k0,k1,k2,k3⟩,kf⟩:=LG.o.cells;go_wp2;refine⟨fun _=>k2,?_⟩;refine Zp 5 ?z4 k2 ?rz4 ?sz4
 case rz4=>intro w hS;go_simp;rfl
 case sz4=>
 refine Zt 6 ?_;refine Ql rfl ?_;go_wp2;refine⟨fun h=>absurd rfl h,?_⟩;refine Qu ZK ?_ _;have L7:=Zh (LG.o.set2 (.slice xa (1+un) xc));have TS_0:Hid (Qea (w6.setCell ⟨w.heap.size+1,2,none⟩ (.slice xa (1+un) xc)) (.slice xa (1+un) xc) (na::ul)):=Qg.same SO.o (LG.o.sstr 2 _);go_wp2_with fail;refine(QFc L7.o.p hT'.o).mono ?_;rintro e v8 ⟨rfl,hc,hb⟩;have L8:=Zh (L7.o.call hc hb);have TS_8:=Zh (Qg.same TS_0.o (L7.o.str hb));clear hc hb;clear k0 k1 k2 k3 kf;have UM:=Zh (Qjq Hna.o HR.o);have hst2:QQb T s=endM T (r.2):=by unfold QQb QTa;rw[HS.o,HN.o,if_pos rfl];dsimp only;rw[HOP.o,HS1.o];simp;rw[UM.o.1]
 have hval:(QTa T s).1=⟨2,[],(if isN T s1=true then QNa T 3 [Qib T s1] s1.step else ([],s1.fail 4)).1,[]⟩:=by unfold QTa;rw[HN.o];dsimp only;rw[HOP.o,HS1.o];simp
 have FIN:=Zh hst2;have VAL:=Zh hval;clear hst2 hval;have ⟨⟨k0,k1,k2,k3⟩,kf⟩:=L8.o.cells;have ⟨⟨j0,j1,j2,j3⟩,jf⟩:=L8.o.rescells;go_wp2;have G:=set4 L8.o.res (.int .i64 2) (.string ⟨#[]⟩) (.slice xa (1+un) xc) (.slice none 0 0);have ⟨gc,_⟩:=Qd G;refine bodyPost_ret (v:=.agg #[.int .i64 2,.string ⟨#[]⟩,.slice xa (1+un) xc,.slice none 0 0]) ?_ rfl ?_
 ·simp[results,Tryz.results248,go_sem,gc]
 ·exact QBd L8.o FIN.o rfl rfl (fun _ h0=>by rw[VAL.o];refine⟨rfl,rfl,?_,Qg.nil⟩;show Qea _ _ (if isN T s1=true then QNa T 3 [Qib T s1] s1.step else ([],s1.fail 4)).1;rw[UM.o.2 (Qrl h0),←HU2.o (Qrl h0)];exact TS_8.o) _ _ _ _
theorem Qok {B bp:Nat}{T:List Tok}{s:PS}{w:World}(h:PSt B bp T s w)(hT:T.length≤1000000)(hS:QY T s=true):
  Calls Tryz.prog 248 #[.pointer (some ⟨bp,0,none⟩)] w (Qze B bp T s w):=by
 cases hN:isN T s
 ·have h2:=hS;unfold QY at h2;rw[hN,Bool.false_or,Bool.and_eq_true] at h2;have h3:opOf (s.next T).text≠0:=by simpa using h2.2
  have h4:∀x,opOf x=0∨opOf x=2∨opOf x=3∨opOf x=4∨opOf x=5∨opOf x=6∨opOf x=7∨opOf x=8∨opOf x=9:=by
   intro x;unfold opOf
   repeat' split
   all_goals omega
  rcases h4 (s.next T).text with h5|e|e|e|e|e|e|e|e
  ·exact absurd h5 h3
  ·exact Quq h hT hN hS e
  ·exact QOn h hT hN hS e
  ·exact QRn h hT hN hS e
  ·exact QNn h hT hN hS e
  ·exact QQn h hT hN hS e
  ·exact QMn h hT hN hS e
  ·exact Qdl h hT hN hS e
  ·exact Qcl h hT hN hS e
 ·exact QPn h hT hN
end R
end
section
open Go.RowKit
variable [Base]
theorem Qof {w:World}{b:Nat}{a0 a1:Value}{t:TypeId}{fr:Nat×Nat}(h:w.heap[b]? = some (.cells #[a0,a1] t fr))(x:Value):(w.setCell ⟨b,0,none⟩ x).heap[b]? = some (.cells #[x,a1] t fr):=by
 simp[World.setCell,Array.getElem?_modify,h]
theorem QBf {w:World}{b:Nat}{a0 a1:Value}{t:TypeId}{fr:Nat×Nat}(h:w.heap[b]? = some (.cells #[a0,a1] t fr))(x:Value):(w.setCell ⟨b,1,none⟩ x).heap[b]? = some (.cells #[a0,x] t fr):=by
 simp[World.setCell,Array.getElem?_modify,h]
theorem QSg {w:World}{b o:Nat}{x:Value}(c:Nat):tyAt (w.setCell ⟨b,o,none⟩ x) c=tyAt w c:=by
 unfold tyAt;by_cases hbc:b=c
 ·subst hbc;simp only[World.setCell,Array.getElem?_modify,if_true]
  cases w.heap[b]? with
 |none=>rfl
 |some o=>cases o <;> rfl
 ·simp only[World.setCell,Array.getElem?_modify,if_neg hbc]
theorem QRb {ts:List TypeId}{U:TypeId}{w:World}{R:Nat}(hR:tyAt w R=some U)(hU:U∉ts)(x0 x1:Value):QBe ts w ((w.setCell ⟨R,0,none⟩ x0).setCell ⟨R,1,none⟩ x1):=fun t hm=>
 (Qf.setCell (U:=U) hR (fun e=>hU (e▸hm))).trans (Qf.setCell (U:=U) (by rw[QSg];exact hR) (fun e=>hU (e▸hm)))
theorem Qnp {s:PS}{ok:Bool}(h:(QBb ok s).err=0):s.err=0:=by
 rcases Int.decEq s.err 0 with h1|h1
 ·cases ok
  ·unfold QBb at h;rw[if_neg ZD,Qdf h1] at h;exact absurd h h1
  ·exact absurd h h1
 ·exact h1
theorem Qpp {T:List Tok}{s:PS}{ok:Bool}(h:(endM T (QBb ok s)).err=0):s.err=0:=Qnp (Qnp (by unfold endM at h;exact h))
end
end Go.Proofs.YtijekimobahgpaaGreatDoor
