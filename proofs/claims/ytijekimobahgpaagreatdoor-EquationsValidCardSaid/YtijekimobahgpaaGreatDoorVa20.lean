/- A part of the proof. -/
import Derived.Test.YtijekimobahgpaaGreatDoorVa18
import Derived.Test.YtijekimobahgpaaGreatDoorVa19
set_option linter.unusedVariables false
set_option linter.unusedSimpArgs false
set_option linter.unusedSectionVars false
set_option maxRecDepth 100000
set_option maxHeartbeats 16000000
namespace Go.Proofs.YtijekimobahgpaaGreatDoor
section
open Go.RowKit
variable [Base]
theorem QPl {s:QD}(h:stmtB s=true):1≤s.op∧s.op≤9:=by
 unfold stmtB opB at h;simp only[Bool.and_eq_true] at h;have h4:=h.2.2
 split at h4
 ·omega
 split at h4
 ·omega
 split at h4
 ·omega
 split at h4
 ·omega
 split at h4
 ·omega
 split at h4
 ·omega
 split at h4
 ·omega
 ·cases h4
def effN (o k:Nat):Nat:=
 match o,k with
|1,1=>3|1,2=>9|1,3=>17|1,4=>17
|4,1=>3|4,2=>1|4,3=>5|4,4=>1
|6,1=>3|6,2=>1|6,3=>1|6,4=>1
|2,2=>8|5,2=>8|8,2=>8
|_,_=>0
structure Qmg (B:Nat)(w:World):Prop where
 g:0<B
 bs:Base.b≤B
 tab:∀o k,o<10→k<5→w.cell? ⟨0,o*5+k,none⟩=some (iv (effN o k))
theorem Qmg.below {B:Nat}{w w':World}(h:Qmg B w)(hb:Below B w w'):Qmg B w':=⟨h.g,h.bs,fun o k ho hk=>(hb.cell (p:=⟨0,o*5+k,none⟩) h.g).trans (h.tab o k ho hk)⟩
def Qgp (r:Qw)(w:World)(e:Ending)(w':World):Prop:=∃gu ku cu,e=.returned (trV r gu ku cu)∧Qja w' gu ku cu r∧Below w.heap.size w w'
theorem QFt {w:World}(a b c d:Obj):((((w.alloc a).alloc b).alloc c).alloc d).heap[w.heap.size+1+1+1]? = some d:=by
 have h:=heap_alloc_new (((w.alloc a).alloc b).alloc c) d;rw[World.size_alloc,World.size_alloc,World.size_alloc] at h;exact h
abbrev SMT:TypeId:=94
theorem QEs:∀o,o<10→∀k,k<5→(bits BinOp.and IntKind.i64 (effN o k:Int) 1 != 0)=(decide (1≤k)&&(o==1||o==4||o==6))∧(bits BinOp.and IntKind.i64 (effN o k:Int) 2 != 0)=(decide (k=1)&&(o==1||o==4||o==6)) ∧
  (bits BinOp.and IntKind.i64 (effN o k:Int) 4 != 0)=(decide (k=3)&&decide (o=4))∧(bits BinOp.and IntKind.i64 (effN o k:Int) 8 != 0)=(decide (k=2)&&(o==1||o==2||o==5||o==8)) ∧
  (bits BinOp.and IntKind.i64 (effN o k:Int) 16 != 0)=(decide (k=3∨k=4)&&decide (o=1)):=by decide
theorem Qws {l:List Int}{m:Nat}(h:∀x∈l,0≤x∧x<(m:Int)):0≤l.headD 0∧l.headD 0≤(m:Int):=by
 cases l with
|nil=>simp
|cons x r=>
  have:=h x ZS;simp only[List.headD_cons];omega
theorem set5a {w:World}{b:Nat}{a0 a1 a2 a3 a4:Value}{t:TypeId}{fr:Nat×Nat}(h:w.heap[b]? = some (.cells #[a0,a1,a2,a3,a4] t fr))(x0 x1:Value):
  ((w.setCell ⟨b,0,none⟩ x0).setCell ⟨b,1,none⟩ x1).heap[b]? = some (.cells #[x0,x1,a2,a3,a4] t fr):=by
 simp[World.setCell,Array.getElem?_modify,h]
theorem set5b {w:World}{b:Nat}{a0 a1 a2 a3 a4:Value}{t:TypeId}{fr:Nat×Nat}(h:w.heap[b]? = some (.cells #[a0,a1,a2,a3,a4] t fr))(x0 x1:Value):
  ((w.setCell ⟨b,2,none⟩ x0).setCell ⟨b,3,none⟩ x1).heap[b]? = some (.cells #[a0,a1,x0,x1,a4] t fr):=by
 simp[World.setCell,Array.getElem?_modify,h]
theorem QAj {w:World}{v:Value}{c:Int}(h:QJa w v [c]):∃b o cap,v=.slice (some ⟨b,o,none⟩) 1 cap∧b<w.heap.size∧w.cell? ⟨b,o,none⟩=some (iv c):=by
 obtain⟨a,cc,rfl,-,-,-,hc⟩:=h.cell;obtain⟨b,o,rfl,h1,h2⟩:=hc 0 c rfl;exact⟨b,o,cc,rfl,h1,by simpa using h2⟩
theorem Qhr {α β:Type}{l:List α}{k:Nat}{x:α}(f:α→List β)(h:l[k]? = some x):((l.take (k+1)).map f).flatten=((l.take k).map f).flatten++f x:=by
 rw[List.take_add_one,h];simp
theorem map_take {α β:Type}{l:List α}{k:Nat}{x:α}(f:α→β)(h:l[k]? = some x):(l.take (k+1)).map f=(l.take k).map f++[f x]:=by
 rw[List.take_add_one,h];simp
theorem QGk {α:Type}(f:α→List Int){m:Nat}(hf:∀x,(f x).length≤m):∀l:List α,(l.map f).flatten.length≤l.length*m
|[]=>by simp
|x::r=>by
  have:=QGk f hf r
  have:=hf x
  simp only[List.map_cons,List.flatten_cons,List.length_append,List.length_cons,Nat.add_mul]
  omega
theorem QWb {z n k sz sz2:Nat}{T U:TypeId}{w w':World}{v v2:Value}{xs ys:List Value}(h:w.ownsRow z T sz v n xs)(ho:w.ownsRow z U sz2 v2 k ys)(hg:w.grownBy w' v2.ownBlock)(hne:T≠U)(hbs:Base.b≤z:=by omega):w'.ownsRow z T sz v n xs:=by
 refine⟨h.1,?_⟩;rcases h.2 with hn|⟨g,cap,cur,rfl,hb,hh,rest⟩
 ·exact .inl hn
 ·exact .inr ⟨g,cap,cur,rfl,hb,(Qf.grown hg ho hne).own hh,rest⟩
theorem Qrg (w:World){a b:Value}:Qg (w.alloc (.cells #[a,b] CT)) CT 2 (.slice (some ⟨w.heap.size,0,none⟩) 1 1) [a,b]:=
 Qg.new [a,b] 1 rfl (by unfold maxLen;omega)
theorem QSm (l:List Qra)(v:Int):(QGa l v).length≤l.length:=Qbm _ _
theorem Qxs {B:Nat}{p:List Qo}{kind:Nat}(h:Qxb p kind=0){i:Nat}{n:Qx}{s:QD}(hn:QOd p i n s)(hs:QFd p n=some s)(fv vv u t:Value)(w:World)(ef:Qmg B w)(tz:TzIn B w)(hB:B≤w.heap.size)(hfv:Qqd w fv (QC p kind))(hvv:Qea w vv (QN p))(hu:Qea w u s.uses)(ht:Qea w t s.targets):
  Calls Tryz.prog 48 #[.agg #[iv kind,fv,vv],iv i,.agg #[iv s.op,sv s.dfn,u,t]] w (Qgp (Qlb (rawT (QN p) (QC p kind) kind i s) (QC p kind).length) w):=by
 have hfz:=Qkb h;obtain⟨on,hon,ho10⟩:∃o:Nat,s.op=(o:Int)∧o<10:=by
  have h1:=QPl hn.stmtB;exact⟨s.op.toNat,by omega,by omega⟩
 have hk4:kind<5:=by omega
 have hm:=hfz.2.2.2.2;have HN:=Zh hn;have HS:=Zh hs;have HH:=Zh h;have HON:=Zh hon;have FV:=Zh hfv;have VV:=Zh hvv;have UU:=Zh hu;obtain⟨fa,fc,rfl,-,-,-,-⟩:=hfv.cell;obtain⟨va,vc,rfl,-,-⟩:=hvv.cell;obtain⟨ua,uc,rfl,hul,huc⟩:=hu.cell;obtain⟨ta,tc,rfl,-,-⟩:=ht.cell;have HUC:=Zh huc;obtain⟨m,hml⟩:=Ze ((QC p kind).length);obtain⟨vn,hvn⟩:=Ze ((QN p).length);obtain⟨un,hun⟩:=Ze s.uses.length;obtain⟨tn,htn⟩:=Ze s.targets.length;rw[hml] at FV hm;rw[hvn] at VV;rw[hun] at UU hul;rw[hml,hvn,hun,htn,hon];have HML:=Zh hml;have HUN:=Zh hun;obtain⟨z,hz⟩:=Ze w.heap.size;obtain⟨W,hW⟩:=Ze ((((w.alloc (.cells #[iv kind,.slice fa m fc,.slice va vn vc] TBT)).alloc (.cells #[iv i] 3)).alloc (.cells #[iv on,sv s.dfn,.slice ua un uc,.slice ta tn tc] SMT)).alloc (.cells #[iv 0,.slice none 0 0,iv 0,.slice none 0 0,.slice none 0 0] FNA));have HZ:=Zh hz;have HWW:=Zh hW;have BW:=Zh (show Below z w W by rw[←hW,←hz];exact(((Zb).alloc ZS _).alloc (by simp;omega) _).alloc (by simp;omega) _);have HT:=Zh (show W.heap[z]? = some (.cells #[iv kind,.slice fa m fc,.slice va vn vc] TBT (0,0)) by rw[←hW,←hz,Below.heap_alloc _ _ _ (by simp;omega),Below.heap_alloc _ _ _ (by simp;omega),Below.heap_alloc _ _ _ ZS];exact heap_alloc_new _ _);have HI:=Zh (show W.heap[z+1]? = some (.cells #[iv i] 3 (0,0)) by rw[←hW,←hz,Below.heap_alloc _ _ _ ZS,Below.heap_alloc _ _ _ ZS];exact Qda _ _);have HSB:=Zh (show W.heap[z+1+1]? = some (.cells #[iv on,sv s.dfn,.slice ua un uc,.slice ta tn tc] SMT (0,0)) by rw[←hW,←hz,Below.heap_alloc _ _ _ ZS];exact Qll _ _ _);have HRB:=Zh (show W.heap[z+1+1+1]? = some (.cells #[iv 0,.slice none 0 0,iv 0,.slice none 0 0,.slice none 0 0] FNA (0,0)) by rw[←hW,←hz];exact QFt _ _ _ _);have HSZ:=Zh (show W.heap.size=z+4 by rw[←hW,←hz];simp);have HEF:=Zh (ef.below (BW.o.mono ZO));obtain⟨e,hee⟩:=Ze (effN on kind);have HE:=Zh hee;have ge:=HEF.o.tab on kind ho10 hk4;rw[hee] at ge;obtain⟨fb1,fb2,fb3,fb4,fb5⟩:=QEs on ho10 kind hk4;rw[hee] at fb1 fb2 fb3 fb4 fb5;obtain⟨b1,hb1⟩:=Ze ((decide (1≤kind)&&(on==1||on==4||on==6)));obtain⟨b2,hb2⟩:=Ze ((decide (kind=1)&&(on==1||on==4||on==6)));obtain⟨b3,hb3⟩:=Ze ((decide (kind=3)&&decide (on=4)));obtain⟨b4,hb4⟩:=Ze ((decide (kind=2)&&(on==1||on==2||on==5||on==8)));obtain⟨b5,hb5⟩:=Ze ((decide (kind=3∨kind=4)&&decide (on=1)));rw[hb1] at fb1;rw[hb2] at fb2;rw[hb3] at fb3;rw[hb4] at fb4;rw[hb5] at fb5;have hdfn:dfnB s.op=(on==1||on==4||on==6):=by
  unfold dfnB;rw[hon,Bool.eq_iff_iff];simp only[Bool.or_eq_true,beq_iff_eq];omega
 have huse:useB s.op=(on==1||on==2||on==5||on==8):=by
  unfold useB;rw[hon,Bool.eq_iff_iff];simp only[Bool.or_eq_true,beq_iff_eq];omega
 obtain⟨F,hF⟩:=Ze (QC p kind);obtain⟨VS,hVS⟩:=Ze (QN p);obtain⟨D,hD⟩:=Ze (QGa F (idxI VS s.dfn));obtain⟨oi,hoi⟩:=Ze (ownF F i);have HKL:=Zh (show QQh (QN p) (QC p kind) s=(if b1=true then D else []) by
  unfold QQh;rw[hF,hVS,hD,hdfn,←hb1];have e1:(on==1||on==4||on==6)=(decide (1≤kind)&&(on==1||on==4||on==6)):=by rw[show decide (1≤kind)=true by simp;omega];rfl
  rw[←e1])
 have HGL:=Zh (show Qgg (QN p) (QC p kind) kind i s=(if b2=true then [oi] else [])++((if b3=true then D else [])++(if b4=true then (s.uses.map fun u=>QGa F (idxI VS u)).flatten else [])) by
  unfold Qgg;rw[hF,hVS,hD,hoi,hdfn,huse,hon,←hb2,←hb3,←hb4];have e1:((kind:Int)=1∧(on==1||on==4||on==6)=true)↔(decide (kind=1)&&(on==1||on==4||on==6))=true:=by
   rw[Bool.and_eq_true,decide_eq_true_eq];constructor <;>(rintro⟨h1,h2⟩;exact⟨by omega,h2⟩)
  have e3:((kind:Int)=3∧(on:Int)=4)↔(decide (kind=3)&&decide (on=4))=true:=by simp only[Bool.and_eq_true,decide_eq_true_eq];omega
  have e4:((kind:Int)=2∧(on==1||on==2||on==5||on==8)=true)↔(decide (kind=2)&&(on==1||on==2||on==5||on==8))=true:=by
   rw[Bool.and_eq_true,decide_eq_true_eq];constructor <;>(rintro⟨h1,h2⟩;exact⟨by omega,h2⟩)
  simp only[e1,e3,e4])
 have HPL:=Zh (show QTe (QN p) (QC p kind) kind s=(if b5=true then s.uses.map fun u=>((QGa F (idxI VS u)).headD 0,D.headD 0) else []) by
  unfold QTe;rw[hF,hVS,hD,hon,←hb5];have e5:(((kind:Int)=3∨(kind:Int)=4)∧(on:Int)=1)↔(decide (kind=3∨kind=4)&&decide (on=1))=true:=by simp only[Bool.and_eq_true,decide_eq_true_eq];omega
  simp only[e5])
 have HONE:=Zh (show b5=true→(∃d,D=[d])∧∀x∈s.uses,∃c,QGa F (idxI VS x)=[c] from fun hb=>by
  rw[hb] at hb5;simp only[Bool.and_eq_true,decide_eq_true_eq] at hb5;have hk1:((kind:Nat):Int)≠1:=by omega
  rw[←hD,←hF,←hVS];exact⟨⟨_,Qac h hk1 (hn.dfn (by rw[hon,hb5.2];rfl))⟩,fun x hx=>⟨_,Qac h hk1 (hn.uses x hx)⟩⟩)
 have HFL:=Zh (show ∀v,(QGa F v).length≤m from fun v=>by rw[←hF,←hml];exact QSm _ _);have hDL:D.length≤256:=by rw[←hD];exact Nat.le_trans (HFL.o _) hm
 have KF:=Zh (show ∀x wx,Below w.heap.size w wx→Calls Tryz.prog 109 #[.agg #[iv kind,.slice fa m fc,.slice va vn vc],sv x] wx (QWk (QGa F (idxI VS x)) wx) from fun x wx b=>by
  rw[←hF,←hVS];exact QJt kind _ _ _ _ x wx (FV.o.below b) (Qg.same VV.o (Qf.below b)) (by rw[hml];omega) (by have:=b.size;have:=tz.bs;omega))
 have KD:=Zh (show ∀wx,Below w.heap.size w wx→Calls Tryz.prog 109 #[.agg #[iv kind,.slice fa m fc,.slice va vn vc],sv s.dfn] wx (QWk D wx) from fun wx b=>by
  rw[←hD];exact KF.o s.dfn wx b)
 have KO:=Zh (show ∀wx,Below W.heap.size W wx→Calls Tryz.prog 110 #[.slice fa m fc,.func (.func 111) #[] #[.pointer (some ⟨z+1,0,none⟩)]] wx (IntQ oi wx) from fun wx b=>by
  rw[←hoi,←hF];have h1:=Qc HI.o b (Qb HI.o);exact QTr _ _ (z+1) i wx (FV.o.below (HZ.o▸(BW.o.trans (b.mono (by have:=HSZ.o;omega))))) (by have:=(Qa h1).1 0;simpa using this) (by have:=Qb h1;omega))
 have TZ:=Zh tz;have hbz:Base.b≤z:=by have:=tz.bs;omega
 have hWz:W.heap.size=z+4:=HSZ.o;clear hn hs h hon hfv hvv hu ht huc hml hvn hun htn hfz hW ef hee tz hb1 hb2 hb3 hb4 hb5 hdfn huse hF hVS hD hoi;obtain⟨x0,x1,x2⟩:=QVa HT.o;obtain⟨s0,s1,s2,s3⟩:=Qt HSB.o;go_enter Tryz.func48,Tryz.ntmps48;go_upto_region 1 with(fail)
 rw[show(((w.alloc (.cells #[iv kind,.slice fa m fc,.slice va vn vc] TBT)).alloc (.cells #[iv i] 3)).alloc (.cells #[iv on,sv s.dfn,.slice ua un uc,.slice ta tn tc] SMT)).alloc (.cells #[iv 0,.slice none 0 0,iv 0,.slice none 0 0,.slice none 0 0] FNA)=W from HWW.o]
 try rw[hz]
 go_quiet (fail);obtain⟨V,hV⟩:=Ze (W.drewN nq);rw[hV];have HBV:=Zh (show Below W.heap.size W V by rw[←hV];exact Qp (Below.refl _ _) _);clear hV ge x0 x1 x2 s0 s1 s2 s3;have HCEL:=Zh (show ∀wx,Below W.heap.size W wx→(wx.heap[z]? = some (.cells #[iv kind,.slice fa m fc,.slice va vn vc] TBT (0,0))∧wx.heap[z+1+1]? = some (.cells #[iv on,sv s.dfn,.slice ua un uc,.slice ta tn tc] SMT (0,0))∧wx.heap[z+1+1+1]? = some (.cells #[iv 0,.slice none 0 0,iv 0,.slice none 0 0,.slice none 0 0] FNA (0,0))) from fun wx b=>
  ⟨Qc HT.o b (Qb HT.o),Qc HSB.o b (Qb HSB.o),Qc HRB.o b (Qb HRB.o)⟩)
 obtain⟨x0,x1,x2⟩:=QVa (HCEL.o V HBV.o).1;go_upto_if 29 with(fail)
 clear x0 x1 x2;have HZW:=Zh (show ∀wx,Below W.heap.size W wx→Below w.heap.size w wx from fun wx b=>HZ.o▸(BW.o.trans (b.mono ZO)));go_cut [10] from 30 to 33 (fun s10 wx=>∃ka kn kc,s10=.slice ka kn kc∧Hid (Below W.heap.size W wx)∧Hid (QJa wx (.slice ka kn kc) (if b1=true then D else [])))
 case first=>
  cases b1 with
 |true=>
   obtain⟨c1,c2,-⟩:=HCEL.o V HBV.o;obtain⟨x0,x1,x2⟩:=QVa c1;obtain⟨s0,s1,s2,s3⟩:=Qt c2;clear c1 c2;go_wp2_with fail;refine(KD.o V (HZW.o V HBV.o)).mono ?_;rintro e w1 ⟨kv,rfl,hk,b1'⟩;have HB1:=Zh (HBV.o.trans (b1'.mono HBV.o.size));obtain⟨ka,kc,rfl,-⟩:=hk.cell;have HK:=Zh hk;clear hk b1';go_wp2;go_meet
   case rel=>exact⟨_,_,_,rfl,HB1.o,HK.o⟩
 |false=>
   go_wp2;go_meet
   case rel=>exact⟨none,0,0,rfl,HBV.o,by unfold Hid;simpa using QJa.nil⟩
 case rest=>
  obtain⟨ka,kn,kc,rfl,HB1,HK1⟩:=hcut;obtain⟨y,hy⟩:=Ze wc.heap.size;obtain⟨wk,rfl⟩:∃x:World,x=wc:=⟨_,rfl⟩;have hyz:z+4≤y:=by have:=HB1.o.size;omega
  have HY:=Zh hy;have HYW:=Zh (show ∀wx,Below y wk wx→Below W.heap.size W wx from fun wx b=>HB1.o.trans (b.mono (by have:=HB1.o.size;omega)));clear hy HBV;go_upto_if 36 with(fail)
  go_cut [9] from 37 to 43 (fun s9 wx=>∃ga gn gc,s9=.slice ga gn gc∧Hid (Below y wk wx)∧Hid (OwnI y wx (.slice ga gn gc) (if b2=true then [oi] else []))∧gn=(if b2=true then [oi] else []).length)
  case first=>
   have hBk:Below y wk wk:=Below.refl _ _
   cases b2 with
  |true=>
    obtain⟨c1,c2,-⟩:=HCEL.o wk HB1.o;obtain⟨x0,x1,x2⟩:=QVa c1;clear c1 c2;go_wp2_with fail;refine(KO.o wk HB1.o).mono ?_;rintro e w1 ⟨rfl,b1'⟩;have HB2:=Zh (show Below y wk w1 from HY.o▸b1');have hyw:y≤w1.heap.size:=by have:=b1'.size;have:=HY.o;omega
    have PUSH:=Zh (show ∀g cap w',w'.ownsRow y 3 1 (.slice (some ⟨g,0,none⟩) (0+1) cap) (0+1) ([]++[iv oi])→w1.grownBy w' (Value.slice none 0 0).ownBlock →
      Below y wk w'∧OwnI y w' (.slice (some ⟨g,0,none⟩) (0+1) cap) [oi] from fun g cap w' ho hg=>
     ⟨HB2.o.trans (Below.of_grown hg (World.ownsRow_nil w1 y 3 1) hyw),ho⟩)
    clear b1' x0 x1 x2;go_wp2_with (at_builtin;refine QL [iv oi] rfl _ _ _ rfl y 3 _ 1 8 Tryz.underlying22 QRa rfl ZO _ _ _ (World.ownsRow_nil w1 y 3 1) rfl rfl rfl rfl (by unfold maxLen;omega) ZO hyw ?_;intro g cap w9 ho hg hzg _;have HP9:=Zh (PUSH.o g cap w9 ho hg);clear ho hg hzg);go_meet
    case rel=>exact⟨_,_,_,rfl,HP9.o.1,HP9.o.2,rfl⟩
  |false=>
    go_wp2;go_meet
    case rel=>exact⟨none,0,0,rfl,hBk,by unfold Hid;simpa using OwnI.nil,rfl⟩
  case rest=>
   obtain⟨ga,gn,gc,rfl,HB2,HG2,hgn⟩:=hcut;obtain⟨G1,hG1⟩:=Ze ((if b2=true then [oi] else []));have hG1l:G1.length≤1:=by rw[←hG1];split <;> simp
   rw[hG1] at HG2 hgn HGL;subst hgn;obtain⟨w2,rfl⟩:∃x:World,x=wc:=⟨_,rfl⟩;clear hG1;go_upto_if 46 with(fail)
   go_cut [9] from 47 to 52 (fun s9 wx=>∃ga gn gc,s9=.slice ga gn gc∧Hid (Below y wk wx)∧Hid (OwnI y wx (.slice ga gn gc) (G1++(if b3=true then D else [])))∧gn=(G1++(if b3=true then D else [])).length)
   case first=>
    cases b3 with
   |true=>
     obtain⟨c1,c2,-⟩:=HCEL.o w2 (HYW.o _ HB2.o);obtain⟨x0,x1,x2⟩:=QVa c1;obtain⟨s0,s1,s2,s3⟩:=Qt c2;clear c1 c2;go_wp2_with (first
     |(go_at_call 109;refine(KD.o w2 (HZW.o _ (HYW.o _ HB2.o))).mono ?_;rintro e w3 ⟨kv,rfl,hk,b1'⟩
       have HB3:=Zh (HB2.o.trans (b1'.mono (by have:=HB2.o.size;have:=HY.o;omega)));have HO3:=Zh (HG2.o.below b1');obtain⟨da,dc,rfl,-⟩:=hk.cell;have HK:=Zh hk;have hyw:y≤w3.heap.size:=by have:=HB3.o.size;have:=HY.o;omega
       have PUSH:=Zh (show ∀g c w',w'.ownsRow y 3 1 (.slice g (G1.length+D.length) c) (G1.length+D.length) (G1.map iv++D.map iv)→w3.grownBy w' (Value.slice ga G1.length gc).ownBlock →
         Below y wk w'∧OwnI y w' (.slice g (G1.length+D.length) c) (G1++D) from fun g c w' ho hg=>
        ⟨HB3.o.trans (Below.of_grown hg HO3.o hyw),by unfold OwnI;rw[List.length_append,List.map_append];exact ho⟩)
       clear hk b1' x0 x1 x2 s0 s1 s2 s3)
     |(at_builtin;refine wpList_append_sl rfl _ _ 22 rfl y 3 _ 1 8 Tryz.underlying22 QRa rfl ZD _ _ _ HO3.o rfl _ D.length (D.map iv) rfl HK.o ZS (by simp[Value.oneCell']) (by unfold maxLen;omega) ZO hyw ?_;intro g c w9 ho hg;have HP9:=Zh (PUSH.o g c w9 ho hg);clear ho hg))
     go_meet
     case rel=>exact⟨_,_,_,rfl,HP9.o.1,by rw[if_pos ZS];exact HP9.o.2,by rw[if_pos ZS,List.length_append]⟩
   |false=>
     go_wp2;go_meet
     case rel=>exact⟨_,_,_,rfl,HB2.o,by rw[if_neg ZS,List.append_nil];exact HG2.o,by rw[if_neg ZS,List.append_nil]⟩
   case rest=>
    obtain⟨ga,gn,gc,rfl,HB3,HG3,hgn⟩:=hcut;obtain⟨G2,hG2⟩:=Ze (G1++(if b3=true then D else []));have hG2l:G2.length≤300:=by
     rw[←hG2,List.length_append]
     split
     ·omega
     ·rw[List.length_nil];omega
    rw[hG2] at HG3 hgn;rw[←List.append_assoc,hG2] at HGL;subst hgn;obtain⟨w3,rfl⟩:∃x:World,x=wc:=⟨_,rfl⟩;obtain⟨UF,hUF⟩:∃f:Str→List Int,(fun u=>QGa F (idxI VS u))=f:=⟨_,rfl⟩;have HUF:=Zh hUF;have hUFx:∀x,QGa F (idxI VS x)=UF x:=fun x=>congrFun hUF x
    have KU:=Zh (show ∀x wx,Below w.heap.size w wx→Calls Tryz.prog 109 #[.agg #[iv kind,.slice fa m fc,.slice va vn vc],sv x] wx (QWk (UF x) wx) from fun x wx b=>by rw[←hUFx];exact KF.o x wx b);simp only[hUFx] at HGL HPL HONE HFL;have HUL:=Zh (show ∀x,(UF x).length≤256 from fun x=>by rw[←hUFx];exact Nat.le_trans (HFL.o _) hm);clear hG2 hUF hUFx;obtain⟨c1,c2,-⟩:=HCEL.o w3 (HYW.o _ HB3.o);obtain⟨s0,s1,s2,s3⟩:=Qt c2;clear c1 c2;go_wp2;clear s0 s1 s2 s3;go_loopw [9,11,56] (fun s9 s11 q wr=>∃k:Nat,k≤un∧q=.int .i64 k∧Hid (Below y wk wr)∧Hid (OwnI y wr s9 (G2++(if b4=true then ((s.uses.take k).map UF).flatten else [])))∧Hid (Qya y wr s11 (if b5=true then (s.uses.take k).map fun u=>((UF u).headD 0,D.headD 0) else []))) (fun _ _ q _=>un-(intOf q).toNat)
    case atStart=>exact⟨0,Nat.zero_le _,rfl,HB3.o,by unfold Hid;simpa using HG3.o,by unfold Hid;simpa using Qya.nil⟩
    case round=>
     rename_i s9 s11 _;obtain⟨k,hk,rfl,HBr,HGr,HPr⟩:=hrel;obtain⟨ra,rc,rfl,-⟩:=HGr.o.shape;obtain⟨pa,pc,rfl,-⟩:=QXa HPr.o;obtain⟨GR,hGR⟩:=Ze (G2++(if b4=true then ((s.uses.take k).map UF).flatten else []));obtain⟨PR,hPR⟩:=Ze ((if b5=true then (s.uses.take k).map fun u=>((UF u).headD 0,D.headD 0) else []));have hun4:un≤4:=by rw[←HUN.o];exact(Qje HN.o.stmtB).2
     have hGRl:GR.length≤300+4*256:=by
      rw[←hGR,List.length_append]
      split
      ·have h1:=QGk UF HUL.o (s.uses.take k);have h2:(s.uses.take k).length≤4:=by rw[List.length_take];omega
       have h3:(s.uses.take k).length*256≤4*256:=Nat.mul_le_mul_right _ h2;omega
      ·simp;omega
     have hPRl:PR.length≤4:=by
      rw[←hPR]
      split
      ·rw[List.length_map,List.length_take];omega
      ·simp
     rw[hGR] at HGr;rw[hPR] at HPr;rw[hGR,hPR];by_cases hlt:k<un
     ·obtain⟨x,hx⟩:∃x,s.uses[k]? = some x:=⟨_,List.getElem?_eq_getElem (by rw[HUN.o];exact hlt)⟩;obtain⟨xb,xo,rfl,hxb,g1⟩:=HUC.o k x hx;have g1:=((HZW.o _ (HYW.o _ HBr.o)).cell (p:=⟨xb,xo+k,none⟩) hxb).trans g1;have HGS:=Zh (show G2++(if b4=true then ((s.uses.take (k+1)).map UF).flatten else [])=GR++(if b4=true then UF x else []) by
       rw[←hGR]
       split
       ·rw[Qhr UF hx,List.append_assoc]
       ·simp)
      have HPS:=Zh (show(if b5=true then (s.uses.take (k+1)).map fun u=>((UF u).headD 0,D.headD 0) else [])=PR++(if b5=true then [((UF x).headD 0,D.headD 0)] else []) by
       rw[←hPR]
       split
       ·rw[map_take _ hx]
       ·simp)
      have HX:=Zh (show x∈s.uses from List.mem_of_getElem? hx);clear hGR hPR hx;go_upto_if 62 with(fail)
      clear g1;go_cut [9] from 63 to 67 (fun s9 wx=>∃ga gc,s9=.slice ga (GR++(if b4=true then UF x else [])).length gc∧Hid (Below y wk wx)∧Hid (OwnI y wx (.slice ga (GR++(if b4=true then UF x else [])).length gc) (GR++(if b4=true then UF x else [])))∧Hid (Qya y wx (.slice pa PR.length pc) PR))
      case first=>
       cases b4 with
      |true=>
        obtain⟨c1,c2,-⟩:=HCEL.o wr (HYW.o _ HBr.o);obtain⟨x0,x1,x2⟩:=QVa c1;clear c1 c2;go_wp2_with (first
        |(go_at_call 109;refine(KU.o x wr (HZW.o _ (HYW.o _ HBr.o))).mono ?_;rintro e w4 ⟨kv,rfl,hk,b1'⟩
          have HB4:=Zh (HBr.o.trans (b1'.mono (by have:=HBr.o.size;have:=HY.o;omega)));have HO4:=Zh (HGr.o.below b1');have HP4:=Zh (HPr.o.below b1');obtain⟨da,dc,rfl,-⟩:=hk.cell;have HK:=Zh hk;have hyw:y≤w4.heap.size:=by have:=HB4.o.size;have:=HY.o;omega
          have hUX:=HUL.o x;have PUSH:=Zh (show ∀g c w',w'.ownsRow y 3 1 (.slice g (GR.length+(UF x).length) c) (GR.length+(UF x).length) (GR.map iv++(UF x).map iv)→w4.grownBy w' (Value.slice ra GR.length rc).ownBlock →
            Below y wk w'∧OwnI y w' (.slice g (GR.length+(UF x).length) c) (GR++UF x)∧Qya y w' (.slice pa PR.length pc) PR from fun g c w' ho hg=>
           ⟨HB4.o.trans (Below.of_grown hg HO4.o hyw),by unfold OwnI;rw[List.length_append,List.map_append];exact ho,QWb HP4.o HO4.o hg ZD⟩)
          clear hk b1' x0 x1 x2)
        |(at_builtin;refine wpList_append_sl rfl _ _ 22 rfl y 3 _ 1 8 Tryz.underlying22 QRa rfl ZD _ _ _ HO4.o rfl _ (UF x).length ((UF x).map iv) rfl HK.o ZS (by simp[Value.oneCell']) (by unfold maxLen;omega) ZO hyw ?_;intro g c w9 ho hg;have HP9:=Zh (PUSH.o g c w9 ho hg);clear ho hg))
        go_meet
        case rel=>exact⟨_,_,by rw[if_pos ZS,List.length_append],HP9.o.1,by rw[if_pos ZS,List.length_append];exact HP9.o.2.1,HP9.o.2.2⟩
      |false=>
        go_wp2;go_meet
        case rel=>exact⟨ra,rc,by rw[if_neg ZS,List.append_nil],HBr.o,by rw[if_neg ZS,List.append_nil];exact HGr.o,HPr.o⟩
      case rest=>
       obtain⟨ga,gc,rfl,HB4,HG4,HP4⟩:=hcut;obtain⟨w4,rfl⟩:∃x:World,x=wc:=⟨_,rfl⟩;obtain⟨G4,hG4⟩:=Ze ((GR++(if b4=true then UF x else [])).length);rw[hG4] at HG4 ⊢;rw[←HGS.o] at HG4;clear HGr HPr HBr hG4;go_upto_if 70 with(fail)
       cases b5 with
      |false=>
        have HP5:=Zh (show Qya y w4 (.slice pa PR.length pc) (if false=true then (s.uses.take (k+1)).map fun u=>((UF u).headD 0,D.headD 0) else []) by rw[HPS.o];simpa using HP4.o);go_wp2;go_roundw
        case rel=>exact⟨k+1,by omega,by go_num,HB4.o,HG4,HP5⟩
        case measure=>simp[intOf];omega
      |true=>
        obtain⟨⟨d,hd⟩,hu⟩:=HONE.o rfl;obtain⟨c,hc⟩:=hu x HX.o;have HDD:=Zh hd;have KD2:=Zh (hd▸KD.o);have KU2:=Zh (hc▸KU.o x);have HPS2:=Zh (show(if true=true then (s.uses.take (k+1)).map fun u=>((UF u).headD 0,D.headD 0) else [])=PR++[((c:Int),d)] by rw[HPS.o,hc,hd];rfl);clear hc hd hu;go_upto_region 17 with(fail)
        have HSS:=Zh (show ∀w',Below y wk w'→(w'.cell? ⟨z,0,none⟩=some (iv kind)∧w'.cell? ⟨z,1,none⟩=some (.slice fa m fc)∧w'.cell? ⟨z,2,none⟩=some (.slice va vn vc)∧w'.cell? ⟨z+1+1,1,none⟩=some (sv s.dfn)) from fun w' hb=>by
         obtain⟨c1,c2,-⟩:=HCEL.o w' (HYW.o _ hb);obtain⟨a0,a1,a2⟩:=QVa c1;obtain⟨-,a3,-,-⟩:=Qt c2;exact⟨a0,a1,a2,a3⟩)
        have HBD:=Zh (show Below y wk (w4.drewN 1) from Qp HB4.o 1);have HGD:=Zh (show OwnI y (w4.drewN 1) (.slice ga G4 gc) (G2++(if b4=true then ((s.uses.take (k+1)).map UF).flatten else [])) from HG4.o.below (Qp (Below.refl _ _) 1));have HPD:=Zh (show Qya y (w4.drewN 1) (.slice pa PR.length pc) PR from HP4.o.below (Qp (Below.refl _ _) 1));refine Zr (fun w'=>w'.cell? ⟨z,0,none⟩=some (iv kind)∧w'.cell? ⟨z,1,none⟩=some (.slice fa m fc)∧w'.cell? ⟨z,2,none⟩=some (.slice va vn vc)∧w'.cell? ⟨z+1+1,1,none⟩=some (sv s.dfn)) 16 (HSS.o (w4.drewN 1) HBD.o) fun hS0=>?_
        refine Yn 0 71 ?_;refine Yn 1 72 ?_;refine Yn 2 73 ?_;refine Yn 6 77 ?_;refine Yn 7 78 ?_;refine Yn 8 79 ?_;refine QP 3 (some 74) 109 #[.agg #[iv kind,.slice fa m fc,.slice va vn vc],sv x] rfl ZK ZK ZK rfl ?_;refine(KU2.o (w4.drewN 1) (HZW.o _ (HYW.o _ HBD.o))).mono ?_;rintro e m1 ⟨cv,rfl,hcv,b1'⟩;obtain⟨cb,cof,ccap,rfl,hcb,c0⟩:=QAj hcv;have HC1:=Zh (show Below y wk m1∧OwnI y m1 (.slice ga G4 gc) (G2++(if b4=true then ((s.uses.take (k+1)).map UF).flatten else []))∧Qya y m1 (.slice pa PR.length pc) PR from⟨HBD.o.trans (b1'.mono (by have:=HBD.o.size;have:=HY.o;omega)),HGD.o.below b1',HPD.o.below b1'⟩);clear hS0 hcv b1';have hS0:=HSS.o m1 HC1.o.1;refine⟨_,rfl,fun _=>hS0,?_⟩;refine Yn 4 75 ?_;refine Qh (rs:=[5,9]) ZK ZD ?_;intro i hi;have hi2:i=5∨i=9:=by simpa using hi
        clear hi;rcases hi2 with rfl|rfl
        ·refine Qs 5 (some 76) (iv c) m1 rfl ZK ?rwx1 rfl ?_
         case rwx1=>go_simp
         refine⟨fun _=>hS0,?_⟩;refine QP 9 (some 80) 109 #[.agg #[iv kind,.slice fa m fc,.slice va vn vc],sv s.dfn] rfl ZK ZK ZK rfl ?_;refine(KD2.o m1 (HZW.o _ (HYW.o _ HC1.o.1))).mono ?_;rintro e m2 ⟨dv,rfl,hdv,b2'⟩;obtain⟨db,dof,dcap,rfl,hdb,d0⟩:=QAj hdv;have HC2:=Zh (show Below y wk m2∧OwnI y m2 (.slice ga G4 gc) (G2++(if b4=true then ((s.uses.take (k+1)).map UF).flatten else []))∧Qya y m2 (.slice pa PR.length pc) PR from⟨HC1.o.1.trans (b2'.mono (by have:=HC1.o.1.size;have:=HY.o;omega)),HC1.o.2.1.below b2',HC1.o.2.2.below b2'⟩);have e0:m2.cell? ⟨cb,cof,none⟩=some (iv c):=(b2'.cell (p:=⟨cb,cof,none⟩) hcb).trans c0;clear hS0 hdv b2';have hS0:=HSS.o m2 HC2.o.1;refine⟨_,rfl,fun _=>hS0,?_⟩;refine Yn 10 81 ?_;refine QW 11 (some 82) (iv d) m2 rfl ZK ZK ?rvx3 rfl (fun _=>hS0) ?_
         case rvx3=>go_simp
         refine Yn 12 83 ?_;have hyw:y≤m2.heap.size:=by have:=HC2.o.1.size;have:=HY.o;omega
         have HAL:=Zh (show Below m2.heap.size m2 (m2.alloc (.cells #[iv c,iv d] CT)) from Zb);have HC3:=Zh (show Below y wk (m2.alloc (.cells #[iv c,iv d] CT))∧OwnI y (m2.alloc (.cells #[iv c,iv d] CT)) (.slice ga G4 gc) (G2++(if b4=true then ((s.uses.take (k+1)).map UF).flatten else []))∧Qya y (m2.alloc (.cells #[iv c,iv d] CT)) (.slice pa PR.length pc) PR from⟨HC2.o.1.trans (HAL.o.mono hyw),HC2.o.2.1.below HAL.o,HC2.o.2.2.below HAL.o⟩);have HNW:=Zh (show Qg (m2.alloc (.cells #[iv c,iv d] CT)) CT 2 (.slice (some ⟨m2.heap.size,0,none⟩) 1 1) [iv c,iv d] from Qrg m2);clear hS0;have hS0:=HSS.o _ HC3.o.1;refine QW 13 (some 84) (.slice (some ⟨m2.heap.size,0,none⟩) 1 1) (m2.alloc (.cells #[iv c,iv d] CT)) rfl ZK ZK ?rvx5 rfl (fun _=>hS0) ?_
         case rvx5=>go_simp
         refine QRe 14 (some 85) rfl ZK ZK rfl (.tmp 71) (.tmp 84) 53 rfl y CT _ 2 16 Tryz.underlying53 Qbf rfl ZD (.slice pa PR.length pc) PR.length (QHa PR) HC3.o.2.2 ZK _ 1 [iv c,iv d] ZK HNW.o rfl rfl (by unfold maxLen;omega) ZO (by simp;omega) ?_;intro g cp w9 ho hg;have HB9:=Zh (HC3.o.1.trans (Below.of_grown hg HC3.o.2.2 (by simp;omega)):Below y wk w9);have HG9:=Zh (show OwnI y w9 (.slice ga G4 gc) (G2++(if b4=true then ((s.uses.take (k+1)).map UF).flatten else [])) from QWb HC3.o.2.1 HC3.o.2.2 hg ZD);have HP9:=Zh (show Qya y w9 (.slice g (PR.length+1) cp) (if true=true then (s.uses.take (k+1)).map fun u=>((UF u).headD 0,D.headD 0) else []) by
          rw[HPS2.o];unfold Qya;rw[QYf,List.length_append];exact ho)
         clear hS0 ho hg;have hS0:=HSS.o _ HB9.o;refine⟨fun _=>hS0,?_⟩;refine Yn 15 11 ?_;refine Qu ZK ?_ _;generalize hA:Act.put _ _ _=A0;simp only[Qba,Qaa,Zu,Zv,Zw] at hA;subst hA;clear c0 d0 hS0;go_wp2;go_roundw
         case rel=>exact⟨k+1,by omega,by go_num,HB9.o,HG9,HP9⟩
         case measure=>simp[intOf];omega
        ·refine Qla 9 (some 80) 109 #[.agg #[iv kind,.slice fa m fc,.slice va vn vc],sv s.dfn] rfl ZK ZK rfl ?_;refine(KD2.o m1 (HZW.o _ (HYW.o _ HC1.o.1))).mono ?_;rintro e m2 ⟨dv,rfl,hdv,b2'⟩;obtain⟨db,dof,dcap,rfl,hdb,d0⟩:=QAj hdv;have HC2:=Zh (show Below y wk m2∧OwnI y m2 (.slice ga G4 gc) (G2++(if b4=true then ((s.uses.take (k+1)).map UF).flatten else []))∧Qya y m2 (.slice pa PR.length pc) PR from⟨HC1.o.1.trans (b2'.mono (by have:=HC1.o.1.size;have:=HY.o;omega)),HC1.o.2.1.below b2',HC1.o.2.2.below b2'⟩);have e0:m2.cell? ⟨cb,cof,none⟩=some (iv c):=(b2'.cell (p:=⟨cb,cof,none⟩) hcb).trans c0;clear hS0 hdv b2';have hS0:=HSS.o m2 HC2.o.1;refine⟨_,rfl,fun _=>hS0,?_⟩;refine Yn 10 81 ?_;refine Qh (rs:=[5,11]) ZK ZD ?_;intro i hi;have hi2:i=5∨i=11:=by simpa using hi
         clear hi;rcases hi2 with rfl|rfl
         ·refine Qs 5 (some 76) (iv c) m2 rfl ZK ?rwx8 rfl ?_
          case rwx8=>go_simp
          refine⟨fun _=>hS0,?_⟩;refine QW 11 (some 82) (iv d) m2 rfl ZK ZK ?rvx9 rfl (fun _=>hS0) ?_
          case rvx9=>go_simp
          refine Yn 12 83 ?_;have hyw:y≤m2.heap.size:=by have:=HC2.o.1.size;have:=HY.o;omega
          have HAL:=Zh (show Below m2.heap.size m2 (m2.alloc (.cells #[iv c,iv d] CT)) from Zb);have HC3:=Zh (show Below y wk (m2.alloc (.cells #[iv c,iv d] CT))∧OwnI y (m2.alloc (.cells #[iv c,iv d] CT)) (.slice ga G4 gc) (G2++(if b4=true then ((s.uses.take (k+1)).map UF).flatten else []))∧Qya y (m2.alloc (.cells #[iv c,iv d] CT)) (.slice pa PR.length pc) PR from⟨HC2.o.1.trans (HAL.o.mono hyw),HC2.o.2.1.below HAL.o,HC2.o.2.2.below HAL.o⟩);have HNW:=Zh (show Qg (m2.alloc (.cells #[iv c,iv d] CT)) CT 2 (.slice (some ⟨m2.heap.size,0,none⟩) 1 1) [iv c,iv d] from Qrg m2);clear hS0;have hS0:=HSS.o _ HC3.o.1;refine QW 13 (some 84) (.slice (some ⟨m2.heap.size,0,none⟩) 1 1) (m2.alloc (.cells #[iv c,iv d] CT)) rfl ZK ZK ?rvx11 rfl (fun _=>hS0) ?_
          case rvx11=>go_simp
          refine QRe 14 (some 85) rfl ZK ZK rfl (.tmp 71) (.tmp 84) 53 rfl y CT _ 2 16 Tryz.underlying53 Qbf rfl ZD (.slice pa PR.length pc) PR.length (QHa PR) HC3.o.2.2 ZK _ 1 [iv c,iv d] ZK HNW.o rfl rfl (by unfold maxLen;omega) ZO (by simp;omega) ?_;intro g cp w9 ho hg;have HB9:=Zh (HC3.o.1.trans (Below.of_grown hg HC3.o.2.2 (by simp;omega)):Below y wk w9);have HG9:=Zh (show OwnI y w9 (.slice ga G4 gc) (G2++(if b4=true then ((s.uses.take (k+1)).map UF).flatten else [])) from QWb HC3.o.2.1 HC3.o.2.2 hg ZD);have HP9:=Zh (show Qya y w9 (.slice g (PR.length+1) cp) (if true=true then (s.uses.take (k+1)).map fun u=>((UF u).headD 0,D.headD 0) else []) by
           rw[HPS2.o];unfold Qya;rw[QYf,List.length_append];exact ho)
          clear hS0 ho hg;have hS0:=HSS.o _ HB9.o;refine⟨fun _=>hS0,?_⟩;refine Yn 15 11 ?_;refine Qu ZK ?_ _;generalize hA:Act.put _ _ _=A0;simp only[Qba,Qaa,Zu,Zv,Zw] at hA;subst hA;clear c0 d0 hS0;go_wp2;go_roundw
          case rel=>exact⟨k+1,by omega,by go_num,HB9.o,HG9,HP9⟩
          case measure=>simp[intOf];omega
         ·refine Qs 11 (some 82) (iv d) m2 rfl ZK ?rwx13 rfl ?_
          case rwx13=>go_simp
          refine⟨fun _=>hS0,?_⟩;refine QW 5 (some 76) (iv c) m2 rfl ZK ZK ?rvx14 rfl (fun _=>hS0) ?_
          case rvx14=>go_simp
          refine Yn 12 83 ?_;have hyw:y≤m2.heap.size:=by have:=HC2.o.1.size;have:=HY.o;omega
          have HAL:=Zh (show Below m2.heap.size m2 (m2.alloc (.cells #[iv c,iv d] CT)) from Zb);have HC3:=Zh (show Below y wk (m2.alloc (.cells #[iv c,iv d] CT))∧OwnI y (m2.alloc (.cells #[iv c,iv d] CT)) (.slice ga G4 gc) (G2++(if b4=true then ((s.uses.take (k+1)).map UF).flatten else []))∧Qya y (m2.alloc (.cells #[iv c,iv d] CT)) (.slice pa PR.length pc) PR from⟨HC2.o.1.trans (HAL.o.mono hyw),HC2.o.2.1.below HAL.o,HC2.o.2.2.below HAL.o⟩);have HNW:=Zh (show Qg (m2.alloc (.cells #[iv c,iv d] CT)) CT 2 (.slice (some ⟨m2.heap.size,0,none⟩) 1 1) [iv c,iv d] from Qrg m2);clear hS0;have hS0:=HSS.o _ HC3.o.1;refine QW 13 (some 84) (.slice (some ⟨m2.heap.size,0,none⟩) 1 1) (m2.alloc (.cells #[iv c,iv d] CT)) rfl ZK ZK ?rvx16 rfl (fun _=>hS0) ?_
          case rvx16=>go_simp
          refine QRe 14 (some 85) rfl ZK ZK rfl (.tmp 71) (.tmp 84) 53 rfl y CT _ 2 16 Tryz.underlying53 Qbf rfl ZD (.slice pa PR.length pc) PR.length (QHa PR) HC3.o.2.2 ZK _ 1 [iv c,iv d] ZK HNW.o rfl rfl (by unfold maxLen;omega) ZO (by simp;omega) ?_;intro g cp w9 ho hg;have HB9:=Zh (HC3.o.1.trans (Below.of_grown hg HC3.o.2.2 (by simp;omega)):Below y wk w9);have HG9:=Zh (show OwnI y w9 (.slice ga G4 gc) (G2++(if b4=true then ((s.uses.take (k+1)).map UF).flatten else [])) from QWb HC3.o.2.1 HC3.o.2.2 hg ZD);have HP9:=Zh (show Qya y w9 (.slice g (PR.length+1) cp) (if true=true then (s.uses.take (k+1)).map fun u=>((UF u).headD 0,D.headD 0) else []) by
           rw[HPS2.o];unfold Qya;rw[QYf,List.length_append];exact ho)
          clear hS0 ho hg;have hS0:=HSS.o _ HB9.o;refine⟨fun _=>hS0,?_⟩;refine Yn 15 11 ?_;refine Qu ZK ?_ _;generalize hA:Act.put _ _ _=A0;simp only[Qba,Qaa,Zu,Zv,Zw] at hA;subst hA;clear c0 d0 hS0;go_wp2;go_roundw
          case rel=>exact⟨k+1,by omega,by go_num,HB9.o,HG9,HP9⟩
          case measure=>simp[intOf];omega
     ·obtain rfl:k=un:=by omega
      have HTK:=Zh (show s.uses.take k=s.uses from List.take_of_length_le (by rw[HUN.o];exact Nat.le_refl _));rw[HTK.o] at hGR hPR;have HGG:=Zh (show GR=Qgg (QN p) (QC p kind) kind i s by rw[HGL.o,←hGR]);have HPP:=Zh (show PR=QTe (QN p) (QC p kind) kind s by rw[HPL.o,←hPR]);clear hGR hPR;have hyr:y≤wr.heap.size:=by have:=HBr.o.size;have:=HY.o;omega
      have KS:=Zh (Qpq PR (.slice pa PR.length pc) wr (fun c hc=>by
       rw[HPP.o] at hc;unfold QTe at hc
       split at hc
       ·obtain⟨x,-,rfl⟩:=List.mem_map.1 hc;have h1:=Qws (l:=QGa (QC p kind) (idxI (QN p) x)) (fun x hx=>QHg hx);rw[HML.o] at h1;exact⟨h1.1,by have:=h1.2;simp only;omega⟩
       ·cases hc) ZO HPr.o)
      go_wp2_with fail;refine KS.o.mono ?_;rintro e w5 ⟨rfl,PS,ho5,hperm,hsort,hg5⟩;have hl5:PS.length≤4:=by rw[hperm.length_eq];exact hPRl
      have HB5:=Zh (HBr.o.trans (Below.of_grown hg5 HPr.o hyr):Below y wk w5);have HG5:=Zh (show OwnI y w5 (.slice ra GR.length rc) GR from QWb HGr.o HPr.o hg5 ZD);have HPM:=Zh (And.intro hperm hsort);have KC:=Zh (Qfn PS _ w5 ZO ho5 ZO);have HP5:=Zh ho5;have hy5:y≤w5.heap.size:=by have:=HB5.o.size;have:=HY.o;omega
      clear ho5 hperm hsort hg5 KS HGr HPr;go_wp2_with fail;refine KC.o.mono ?_;rintro e w6 ⟨cu,rfl,hcu,hg6⟩;have HB6:=Zh (HB5.o.trans (Below.of_grown hg6 HP5.o hy5):Below y wk w6);have HG6:=Zh (show OwnI y w6 (.slice ra GR.length rc) GR from QWb HG5.o HP5.o hg6 ZD);obtain⟨cua,cuc,rfl,-⟩:=hcu.cell;obtain⟨cn,hcn⟩:=Ze ((Qxa PS).length);rw[hcn] at hcu ⊢;have HC6:=Zh hcu;have hy6:y≤w6.heap.size:=by have:=HB6.o.size;have:=HY.o;omega
      obtain⟨q,hq⟩:=Ze w6.heap.size;obtain⟨W7,hW7⟩:=Ze (w6.alloc (.cells #[iv 0,.slice none 0 0,iv 0,.slice none 0 0,.slice cua cn cuc] FNA));have A7:=Zh (show Below w6.heap.size w6 W7 by rw[←hW7];exact Zb);have HQ7:=Zh (show W7.heap[q]? = some (.cells #[iv 0,.slice none 0 0,iv 0,.slice none 0 0,.slice cua cn cuc] FNA (0,0)) by rw[←hW7,←hq];exact heap_alloc_new _ _);have HB7:=Zh (HB6.o.trans (A7.o.mono hy6):Below y wk W7);have HG7:=Zh (HG6.o.below A7.o);have HC7:=Zh (HC6.o.below A7.o);have HW7:=Zh hW7;have hyq:y≤q:=by omega
      have RAW:=Zh (QQr HH.o HN.o HS.o (sc:=PS) (by rw[←HPP.o];exact HPM.o.1) HPM.o.2);obtain⟨RG,hRG⟩:=Ze ((rawT (QN p) (QC p kind) kind i s).gen);obtain⟨RK,hRK⟩:=Ze ((rawT (QN p) (QC p kind) kind i s).kill);have HRGo:=Zh (show Ok m RG by rw[←hRG,←HML.o];exact QIb _ (by rw[HML.o];exact hm));have HRKo:=Zh (show Ok m RK by rw[←hRK,←HML.o];exact QIb _ (by rw[HML.o];exact hm));rw[hRG,hRK] at RAW;clear hW7 hcu hg6 KC hcn hRG hRK HG6 HC6 HP5;go_upto_region 21 with(fail)
      try rw[hq]
      rw[show w6.alloc (.cells #[iv 0,.slice none 0 0,iv 0,.slice none 0 0,.slice cua cn cuc] FNA)=W7 from HW7.o];have KG:=Zh (show Calls Tryz.prog 115 #[iv m,.slice ra GR.length rc] W7 (SetE (RG,0) W7) by
       have h1:=QXp m GR (.slice ra GR.length rc) W7 HG7.o.ints;have h2:=RAW.o.1;rw[HML.o,←HGG.o] at h2
       rwa [h2] at h1)
      clear hq;go_wp2_with fail;refine KG.o.mono ?_;rintro e w8 ⟨gu,rfl,hgu,b8⟩;obtain⟨gua,gun,guc,rfl⟩:=hgu.shape;simp only[setV,HRGo.o.width];have HGW8:=Zh hgu.words;have HQ8:=Zh (Qc HQ7.o b8 (Qb HQ7.o));have HB8:=Zh (HB7.o.trans (b8.mono (by have:=HB7.o.size;have:=HY.o;omega)));have HC8:=Zh (HC7.o.below b8);obtain⟨W9,hW9⟩:=Ze ((w8.setCell ⟨q,0,none⟩ (iv m)).setCell ⟨q,1,none⟩ (.slice gua gun guc));have hT8:tyAt w8 q=some FNA:=Qv HQ8.o ZO;have hT8b:tyAt (w8.setCell ⟨q,0,none⟩ (iv m)) q=some FNA:=by rw[QS];exact hT8
      have HQ9:=Zh (show W9.heap[q]? = some (.cells #[iv m,.slice gua gun guc,iv 0,.slice none 0 0,.slice cua cn cuc] FNA (0,0)) by rw[←hW9];exact set5a HQ8.o _ _);have HB9:=Zh (show Below y wk W9 by rw[←hW9];exact(HB8.o.setCell (by show y≤q;omega) _).setCell (by show y≤q;omega) _);have HGW9:=Zh (show Qi W9 (.slice gua gun guc) RG.words by rw[←hW9];exact(HGW8.o.keep (Qf.setCell (U:=FNA) hT8 ZD)).keep (Qf.setCell (U:=FNA) hT8b ZD));have HC9:=Zh (show QKc W9 (.slice cua cn cuc) (Qxa PS) by rw[←hW9];exact Qg.same (Qg.same HC8.o (Qf.setCell (U:=FNA) hT8 ZD)) (Qf.setCell (U:=FNA) hT8b ZD));have HW9:=Zh hW9;clear hgu b8 KG hW9 hT8 hT8b;obtain⟨c0,c1,c2,c3,c4⟩:=QJ HQ8.o;have f0:=(Qa HQ8.o).2 0;have f1:=(Qa HQ8.o).2 1;go_upto_region 22 with(fail)
      rw[show(w8.setCell ⟨q,0,none⟩ (iv m)).setCell ⟨q,1,none⟩ (.slice gua gun guc)=W9 from HW9.o];clear c0 c1 c2 c3 c4 f0 f1 HQ8 HC8 HGW8 HQ7 HC7;have KK:=Zh (show Calls Tryz.prog 115 #[iv m,.slice ka kn kc] W9 (SetE (RK,0) W9) by
       have h1:=QXp m _ (.slice ka kn kc) W9 (Qg.same HK1.o (Qf.below (HY.o▸HB9.o)));have h2:=RAW.o.2.1;rw[HML.o,HKL.o] at h2
       rwa [h2] at h1)
      go_wp2_with fail;refine KK.o.mono ?_;rintro e w10 ⟨ku,rfl,hku,b10⟩;obtain⟨kua,kun,kuc,rfl⟩:=hku.shape;simp only[setV,HRKo.o.width];have HKW10:=Zh hku.words;have HQ10:=Zh (Qc HQ9.o b10 (Qb HQ9.o));have HB10:=Zh (HB9.o.trans (b10.mono (by have:=HB9.o.size;have:=HY.o;omega)));have HC10:=Zh (HC9.o.below b10);have HGW10:=Zh (HGW9.o.below b10);obtain⟨W11,hW11⟩:=Ze ((w10.setCell ⟨q,2,none⟩ (iv m)).setCell ⟨q,3,none⟩ (.slice kua kun kuc));have hT8:tyAt w10 q=some FNA:=Qv HQ10.o ZO;have hT8b:tyAt (w10.setCell ⟨q,2,none⟩ (iv m)) q=some FNA:=by rw[QS];exact hT8
      have HQ11:=Zh (show W11.heap[q]? = some (.cells #[iv m,.slice gua gun guc,iv m,.slice kua kun kuc,.slice cua cn cuc] FNA (0,0)) by rw[←hW11];exact set5b HQ10.o _ _);have HB11:=Zh (show Below y wk W11 by rw[←hW11];exact(HB10.o.setCell (by show y≤q;omega) _).setCell (by show y≤q;omega) _);have HTA:=Zh (show Qja W11 (.slice gua gun guc) (.slice kua kun kuc) (.slice cua cn cuc) ⟨RG,RK,Qxa PS⟩ by
       rw[←hW11];exact⟨(HGW10.o.keep (Qf.setCell (U:=FNA) hT8 ZD)).keep (Qf.setCell (U:=FNA) hT8b ZD),(HKW10.o.keep (Qf.setCell (U:=FNA) hT8 ZD)).keep (Qf.setCell (U:=FNA) hT8b ZD),Qg.same (Qg.same HC10.o (Qf.setCell (U:=FNA) hT8 ZD)) (Qf.setCell (U:=FNA) hT8b ZD)⟩)
      have HW11:=Zh hW11;clear hku b10 KK hW11 hT8 hT8b;obtain⟨c0,c1,c2,c3,c4⟩:=QJ HQ10.o;have f2:=(Qa HQ10.o).2 2;have f3:=(Qa HQ10.o).2 3;go_upto_region 23 with(fail)
      rw[show(w10.setCell ⟨q,2,none⟩ (iv m)).setCell ⟨q,3,none⟩ (.slice kua kun kuc)=W11 from HW11.o];clear c0 c1 c2 c3 c4 f2 f3 HQ10 HC10 HGW10 HKW10 HQ9 HC9 HGW9;obtain⟨c0,c1,c2,c3,c4⟩:=QJ HQ11.o;have KN:=Zh (show Calls Tryz.prog 19 #[.agg #[iv m,.slice gua gun guc,iv m,.slice kua kun kuc,.slice cua cn cuc]] W11 (QCl (Qlb (rawT (QN p) (QC p kind) kind i s) m,0) W11) by
       have hbw:=HZW.o _ (HYW.o _ HB11.o);have h1:=Qqr (B:=B) ⟨RG,RK,Qxa PS⟩ (.slice gua gun guc) (.slice kua kun kuc) (.slice cua cn cuc) W11 HTA.o (TZ.o.below (hbw.mono hB)) (by have:=hbw.size;omega);have h2:=RAW.o.2.2;rw[HML.o] at h2;rw[h2] at h1;simp only[trV,HRGo.o.width,HRKo.o.width] at h1;exact h1)
      go_wp2_with fail;refine KN.o.mono ?_;rintro e w12 ⟨au,bu,du,rfl,ht,b12⟩;obtain⟨CR,hCR⟩:=Ze (Qlb (rawT (QN p) (QC p kind) kind i s) m);have HCR:=Zh hCR;rw[hCR] at ht ⊢;clear hCR;obtain⟨aa,ac,rfl,-,-,-,-⟩:=ht.gen.cell;obtain⟨ba,bc,rfl,-,-,-,-⟩:=ht.kill.cell;obtain⟨da,dc,rfl,-,-,-,-⟩:=ht.cops.cell;simp only[trV];obtain⟨an,han⟩:=Ze CR.gen.words.length;obtain⟨bn,hbn⟩:=Ze CR.kill.words.length;obtain⟨dn,hdn⟩:=Ze CR.cops.length;rw[han,hbn,hdn] at ht ⊢;obtain⟨aw,haw⟩:=Ze CR.gen.width;obtain⟨bw,hbw⟩:=Ze CR.kill.width;rw[haw,hbw];have HAW:=Zh haw;have HBW:=Zh hbw;have HT12:=Zh ht;have HB12:=Zh (HB11.o.trans (b12.mono (by have:=HB11.o.size;have:=HY.o;omega)));obtain⟨r,hr⟩:=Ze w12.heap.size;obtain⟨W13,hW13⟩:=Ze (w12.alloc (.cells #[iv aw,.slice aa an ac,iv bw,.slice ba bn bc,.slice da dn dc] FNA));have A13:=Zh (show Below w12.heap.size w12 W13 by rw[←hW13];exact Zb);have HQ13:=Zh (show W13.heap[r]? = some (.cells #[iv aw,.slice aa an ac,iv bw,.slice ba bn bc,.slice da dn dc] FNA (0,0)) by rw[←hW13,←hr];exact heap_alloc_new _ _);have HB13:=Zh (HB12.o.trans (A13.o.mono (by have:=HB12.o.size;have:=HY.o;omega)):Below y wk W13);have HT13:=Zh (HT12.o.below A13.o);have HW13:=Zh hW13;have hrz:z+1+1+1<r:=by have:=HB12.o.size;have:=HY.o;omega
      clear ht b12 KN hW13 han hbn hdn haw hbw c0 c1 c2 c3 c4 HT12;go_upto_region 24 with(fail)
      try rw[hr]
      rw[show w12.alloc (.cells #[iv aw,.slice aa an ac,iv bw,.slice ba bn bc,.slice da dn dc] FNA)=W13 from HW13.o];have HRB3:=Zh (HCEL.o W13 (HYW.o _ HB13.o)).2.2;obtain⟨r0,r1,r2,r3,r4⟩:=QJ HQ13.o;obtain⟨c0,c1,c2,c3,c4⟩:=QJ HRB3.o;have f0:=(Qa HRB3.o).2 0;have f1:=(Qa HRB3.o).2 1;have f2:=(Qa HRB3.o).2 2;have f3:=(Qa HRB3.o).2 3;have f4:=(Qa HRB3.o).2 4;have E5:=Zh (set5 HRB3.o (iv aw) (.slice aa an ac) (iv bw) (.slice ba bn bc) (.slice da dn dc));have HSM:=Zh (fun (T:TypeId) (hne:T≠FNA)=>Quc (T:=T) (Qv HRB3.o ZO) hne (iv aw) (.slice aa an ac) (iv bw) (.slice ba bn bc) (.slice da dn dc));have HT14:=Zh (HT13.o.keep (HSM.o _ ZD) (HSM.o _ ZD));have HB14:=Zh (show Below z w (((((W13.setCell ⟨z+1+1+1,0,none⟩ (iv aw)).setCell ⟨z+1+1+1,1,none⟩ (.slice aa an ac)).setCell ⟨z+1+1+1,2,none⟩ (iv bw)).setCell ⟨z+1+1+1,3,none⟩ (.slice ba bn bc)).setCell ⟨z+1+1+1,4,none⟩ (.slice da dn dc)) from by
       have h0:Below z w W13:=HZ.o▸HZW.o _ (HYW.o _ HB13.o);exact((((h0.setCell (by show z≤z+1+1+1;omega) _).setCell (by show z≤z+1+1+1;omega) _).setCell (by show z≤z+1+1+1;omega) _).setCell (by show z≤z+1+1+1;omega) _).setCell (by show z≤z+1+1+1;omega) _)
      clear hr;go_wp2;obtain⟨g0,g1,g2,g3,g4⟩:=QJ E5.o;refine bodyPost_ret (v:=.agg #[iv aw,.slice aa an ac,iv bw,.slice ba bn bc,.slice da dn dc]) (by simp[results,Tryz.results48,go_sem,g0,g1,g2,g3,g4]) rfl ?_;rw[HCR.o];exact⟨.slice aa an ac,.slice ba bn bc,.slice da dn dc,by rw[show trV CR (.slice aa an ac) (.slice ba bn bc) (.slice da dn dc)=.agg #[iv CR.gen.width,.slice aa an ac,iv CR.kill.width,.slice ba bn bc,.slice da dn dc] from rfl,HAW.o,HBW.o],HT14.o,by rw[HZ.o];exact HB14.o⟩
end
end Go.Proofs.YtijekimobahgpaaGreatDoor
