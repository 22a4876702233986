/- A part of the proof. -/
import Derived.Test.YtijekimobahgpaaGreatDoorVa32
set_option linter.unusedVariables false
set_option linter.unusedSimpArgs false
set_option linter.unusedSectionVars false
set_option maxRecDepth 100000
set_option maxHeartbeats 16000000
namespace Go.Proofs.YtijekimobahgpaaGreatDoor
section
open Go.RowKit
variable [Base]
noncomputable def QKb:Code:=(Tryz.f171.body.bind Qxd).getD .skip
def frR (s:ByteArray)(v:Value)(line col:Int)(op:Bool)(i:Int)(u:Nat→Value):Act:={ tmps:=#[.string s,undef,.slice none 0 0,.int .i64 0,.int .i64 0,.int .i64 0,v,.int .i64 line,.int .i64 col,.bool op,.int .i64 i,u 11,u 12,u 13,u 14,u 15,u 16,u 17,u 18,u 19,u 20,u 21,u 22,u 23,u 24,u 25,u 26,u 27,u 28,u 29,u 30,u 31,u 32,u 33,u 34,u 35,u 36,u 37,u 38,u 39,u 40,u 41,u 42,u 43,u 44,u 45,u 46,u 47,u 48,u 49,u 50,u 51,u 52,u 53,u 54,u 55,u 56,u 57,u 58,u 59,u 60,u 61,u 62,u 63,u 64,u 65,u 66,u 67,u 68,u 69,u 70,u 71,u 72,u 73,u 74,u 75,u 76,u 77,u 78,u 79,u 80,u 81,u 82,u 83,u 84,u 85,u 86,u 87,u 88,u 89,u 90,u 91,u 92,u 93,u 94,u 95,u 96,u 97,u 98,u 99,u 100,u 101,u 102,u 103,u 104,u 105,u 106,u 107,u 108,u 109,u 110,u 111,u 112,u 113,u 114,u 115,u 116,u 117,u 118,u 119,u 120,u 121,u 122,u 123,u 124,u 125,u 126,u 127,u 128,u 129,u 130,u 131,u 132,u 133,u 134,u 135,u 136,u 137,u 138,u 139,u 140,u 141,u 142,u 143,u 144,u 145,u 146,u 147,u 148,u 149,u 150,u 151,u 152,u 153,u 154,u 155,u 156,u 157,u 158,u 159,u 160,u 161,u 162,u 163,u 164,u 165,u 166,u 167,u 168,u 169,u 170,u 171,u 172,u 173],defers:=[] }
structure BdR (s:ByteArray)(toks:List Tok)(i line col:Nat)(op:Bool):Prop where
 size:s.size≤4096
 at_:i≤s.size
 line:line≤i+1
 col:col≤i+1
 toks:toks.length+(if op then 1 else 0)≤2*i
def RInv (s:ByteArray)(w0:World)(B:Nat)(R:Qub)(a:Act)(w:World):Prop:=
 ∃(toks:List Tok) (i line col:Nat) (op:Bool) (v:Value),a=frR s v line col op i (Qqp a)∧w.ownsRow B 232 4 v toks.length (toks.map Qpa).flatten∧Below B w0 w∧B≤w.heap.size∧BdR s toks i line col op ∧
  lex (s.data.toList.drop i) line col op toks=R
def RMu (s:ByteArray)(a:Act)(_:World):Nat:=s.size-(intOf (a.tmps.getD 10 undef)).toNat
def Qau (s:ByteArray)(w0:World)(B:Nat)(R:Qub)(a:Act)(w:World):Prop:=
 ∃(toks:List Tok) (line col:Nat) (op:Bool) (v:Value),a=frR s v line col op s.size (Qqp a)∧w.ownsRow B 232 4 v toks.length (toks.map Qpa).flatten∧Below B w0 w∧B≤w.heap.size∧BdR s toks s.size line col op ∧
  lex [] line col op toks=R
theorem Qid {w:World}{B:Nat}{v:Value}{toks:List Tok}(t:Tok)(h:w.ownsRow B 232 4 v (toks.length+1) ((toks.map Qpa).flatten++Qpa t)):
  w.ownsRow B 232 4 v (toks++[t]).length ((toks++[t]).map Qpa).flatten:=by
 rw[QMr,List.length_append];exact h
theorem Qhk {w:World}{B:Nat}{v:Value}{n:Nat}{toks:List Tok}(h:w.ownsRow B 232 4 v n (toks.map Qpa).flatten):QFb w v toks:=Qg.of_owns h
theorem QUl (s:ByteArray)(w0:World)(B:Nat)(R:Qub)(w:World)(u:Nat→Value)(toks:List Tok)(i line col:Nat)(op:Bool)(v:Value)(hB:Hid (w0.heap.size=B))(Q:Exit→Act→World→Prop)(hret:∀a w,bodyPost Tryz.prog Tryz.f171 (QGb w0 R) .ret a w→Q .ret a w)(hown:w.ownsRow B 232 4 v toks.length (toks.map Qpa).flatten)(hbel:Hid (Below B w0 w))(hBw:B≤w.heap.size)(hbd:BdR s toks i line col op)(hi:i<s.size)(HC:Hid (s[i].toNat=32))(hR:Hid (lex (s.data.toList.drop i) line col op toks=R)):
  QKb.wp Tryz.prog (Exit.then (fun a' w'=>RInv s w0 B R a' w'∧RMu s a' w' < RMu s (frR s v line col op i u) w) Q) (frR s v line col op i u) w:=by
 have b1:=hbd.size;have b2:=hbd.line;have b3:=hbd.toks;have b4:=hbd.col;have hD:=Zh (QYa s i hi);have HO:=Zh hown;have hret':=Zh hret;clear hbd hown hret;have t32:(((s[i]).toNat:Int)==32)=true:=by simp;have:=HC.o;omega
 have t10:(((s[i]).toNat:Int)==10)=false:=by simp;have:=HC.o;omega
 have t59:(((s[i]).toNat:Int)==59)=false:=by simp;have:=HC.o;omega
 have t35:(((s[i]).toNat:Int)==35)=false:=by simp;have:=HC.o;omega
 conv=>arg 2;whnf
 unfold frR;go_wp2;refine⟨⟨toks,i+1,line,col+1,op,v,rfl,HO.o,hbel.o,hBw,⟨b1,by omega,by omega,by omega,by omega⟩,?_⟩,by simp[RMu,frR,intOf];omega⟩;rw[←hR.o,hD.o,Qzk (by have:=HC.o;omega)];rfl
theorem Qvq (s:ByteArray)(w0:World)(B:Nat)(R:Qub)(w:World)(u:Nat→Value)(toks:List Tok)(i line col:Nat)(op:Bool)(v:Value)(hB:Hid (w0.heap.size=B))(Q:Exit→Act→World→Prop)(hret:∀a w,bodyPost Tryz.prog Tryz.f171 (QGb w0 R) .ret a w→Q .ret a w)(hown:w.ownsRow B 232 4 v toks.length (toks.map Qpa).flatten)(hbel:Hid (Below B w0 w))(hBw:B≤w.heap.size)(hbd:BdR s toks i line col op)(hi:i<s.size)(HC:Hid (s[i].toNat=9))(hR:Hid (lex (s.data.toList.drop i) line col op toks=R)):
  QKb.wp Tryz.prog (Exit.then (fun a' w'=>RInv s w0 B R a' w'∧RMu s a' w' < RMu s (frR s v line col op i u) w) Q) (frR s v line col op i u) w:=by
 have b1:=hbd.size;have b2:=hbd.line;have b3:=hbd.toks;have b4:=hbd.col;have hD:=Zh (QYa s i hi);have HO:=Zh hown;have hret':=Zh hret;clear hbd hown hret;have t32:(((s[i]).toNat:Int)==32)=false:=by simp;have:=HC.o;omega
 have t9:(((s[i]).toNat:Int)==9)=true:=by simp;have:=HC.o;omega
 have t10:(((s[i]).toNat:Int)==10)=false:=by simp;have:=HC.o;omega
 have t59:(((s[i]).toNat:Int)==59)=false:=by simp;have:=HC.o;omega
 have t35:(((s[i]).toNat:Int)==35)=false:=by simp;have:=HC.o;omega
 conv=>arg 2;whnf
 unfold frR;go_wp2;refine⟨⟨toks,i+1,line,col+1,op,v,rfl,HO.o,hbel.o,hBw,⟨b1,by omega,by omega,by omega,by omega⟩,?_⟩,by simp[RMu,frR,intOf];omega⟩;rw[←hR.o,hD.o,Qzk (by have:=HC.o;omega)];rfl
theorem QTn (s:ByteArray)(w0:World)(B:Nat)(R:Qub)(w:World)(u:Nat→Value)(toks:List Tok)(i line col:Nat)(op:Bool)(v:Value)(hB:Hid (w0.heap.size=B))(Q:Exit→Act→World→Prop)(hret:∀a w,bodyPost Tryz.prog Tryz.f171 (QGb w0 R) .ret a w→Q .ret a w)(hown:w.ownsRow B 232 4 v toks.length (toks.map Qpa).flatten)(hbel:Hid (Below B w0 w))(hBw:B≤w.heap.size)(hbd:BdR s toks i line col op)(hi:i<s.size)(HC:Hid (s[i].toNat=10))(hR:Hid (lex (s.data.toList.drop i) line col op toks=R)):
  QKb.wp Tryz.prog (Exit.then (fun a' w'=>RInv s w0 B R a' w'∧RMu s a' w' < RMu s (frR s v line col op i u) w) Q) (frR s v line col op i u) w:=by
 have b1:=hbd.size;have b2:=hbd.line;have b3:=hbd.toks;have b4:=hbd.col;have hD:=Zh (QYa s i hi);have HO:=Zh hown;have hret':=Zh hret;clear hbd hown hret;have t32:(((s[i]).toNat:Int)==32)=false:=by simp;have:=HC.o;omega
 have t9:(((s[i]).toNat:Int)==9)=false:=by simp;have:=HC.o;omega
 have t10:(((s[i]).toNat:Int)==10)=true:=by simp;have:=HC.o;omega
 have t59:(((s[i]).toNat:Int)==59)=false:=by simp;have:=HC.o;omega
 have t35:(((s[i]).toNat:Int)==35)=false:=by simp;have:=HC.o;omega
 cases op
 ·conv=>arg 2;whnf
  unfold frR;go_wp2;refine wp_loop_rounds 1 ?_;rw[rounds_succ];go_wp2;refine⟨⟨toks,i+1,line+1,1,false,v,rfl,HO.o,hbel.o,hBw,⟨b1,by omega,by omega,by omega,by simp at b3 ⊢;omega⟩,?_⟩,by simp[RMu,frR,intOf];omega⟩;rw[←hR.o,hD.o,Qmh HC.o];rfl
 ·conv=>arg 2;whnf
  unfold frR;go_wp2_with (at_builtin;refine QL [.int .i64 3,.string ⟨#[]⟩,.int .i64 line,.int .i64 col] rfl _ _ 222 rfl B 232 _ 4 40 Tryz.underlying222 QKe rfl ZO _ _ _ HO.o rfl rfl rfl rfl (by unfold maxLen;omega) ZO hBw ?_;intro g cap w1 hown1 hgrow hg1 hg2;have hb1:=Below.of_grown hgrow HO.o hBw;have hsz:=hb1.size;have HO1:=Zh hown1;have HB1:=Zh (hbel.o.trans hb1);clear hown1 hgrow hb1);refine wp_loop_rounds 1 ?_;rw[rounds_succ];go_wp2;refine⟨⟨toks++[⟨3,[],line,col⟩],i+1,line+1,1,false,_,rfl,Qid ⟨3,[],line,col⟩ HO1.o,HB1.o,ZO,⟨b1,by omega,by omega,by omega,by simp at b3 ⊢;omega⟩,?_⟩,by simp[RMu,frR,intOf];omega⟩;rw[←hR.o,hD.o,Qmh HC.o];rfl
theorem QSn (s:ByteArray)(w0:World)(B:Nat)(R:Qub)(w:World)(u:Nat→Value)(toks:List Tok)(i line col:Nat)(op:Bool)(v:Value)(hB:Hid (w0.heap.size=B))(Q:Exit→Act→World→Prop)(hret:∀a w,bodyPost Tryz.prog Tryz.f171 (QGb w0 R) .ret a w→Q .ret a w)(hown:w.ownsRow B 232 4 v toks.length (toks.map Qpa).flatten)(hbel:Hid (Below B w0 w))(hBw:B≤w.heap.size)(hbd:BdR s toks i line col op)(hi:i<s.size)(HC:Hid (s[i].toNat=59))(hR:Hid (lex (s.data.toList.drop i) line col op toks=R)):
  QKb.wp Tryz.prog (Exit.then (fun a' w'=>RInv s w0 B R a' w'∧RMu s a' w' < RMu s (frR s v line col op i u) w) Q) (frR s v line col op i u) w:=by
 have b1:=hbd.size;have b2:=hbd.line;have b3:=hbd.toks;have b4:=hbd.col;have hD:=Zh (QYa s i hi);have HO:=Zh hown;have hret':=Zh hret;clear hbd hown hret;have t32:(((s[i]).toNat:Int)==32)=false:=by simp;have:=HC.o;omega
 have t9:(((s[i]).toNat:Int)==9)=false:=by simp;have:=HC.o;omega
 have t10:(((s[i]).toNat:Int)==10)=false:=by simp;have:=HC.o;omega
 have t59:(((s[i]).toNat:Int)==59)=true:=by simp;have:=HC.o;omega
 have t35:(((s[i]).toNat:Int)==35)=false:=by simp;have:=HC.o;omega
 cases op
 ·conv=>arg 2;whnf
  unfold frR;by_cases h1:i+1<s.size
  ·cases h2:(((s[i+1]).toNat:Int)==10)
   all_goals
    go_wp2;refine wp_loop_rounds 1 ?_;rw[rounds_succ];go_wp2;refine⟨⟨toks,i+1,line,col+1,false,_,rfl,HO.o,hbel.o,hBw,⟨b1,by omega,by omega,by omega,by simp at b3 ⊢;omega⟩,?_⟩,by simp[RMu,frR,intOf];omega⟩;rw[←hR.o,hD.o,Qlh HC.o];rfl
  ·go_wp2;refine wp_loop_rounds 1 ?_;rw[rounds_succ];go_wp2;refine⟨⟨toks,i+1,line,col+1,false,_,rfl,HO.o,hbel.o,hBw,⟨b1,by omega,by omega,by omega,by simp at b3 ⊢;omega⟩,?_⟩,by simp[RMu,frR,intOf];omega⟩;rw[←hR.o,hD.o,Qlh HC.o];rfl
 ·conv=>arg 2;whnf
  unfold frR;by_cases h1:i+1<s.size
  ·cases h2:(((s[i+1]).toNat:Int)==10)
   all_goals
    go_wp2_with (at_builtin;refine QL [.int .i64 3,.string ⟨#[]⟩,.int .i64 line,.int .i64 col] rfl _ _ 222 rfl B 232 _ 4 40 Tryz.underlying222 QKe rfl ZO _ _ _ HO.o rfl rfl rfl rfl (by unfold maxLen;omega) ZO hBw ?_;intro g cap w1 hown1 hgrow hg1 hg2;have hb1:=Below.of_grown hgrow HO.o hBw;have hsz:=hb1.size;have HO1:=Zh hown1;have HB1:=Zh (hbel.o.trans hb1);clear hown1 hgrow hb1);refine wp_loop_rounds 1 ?_;rw[rounds_succ];go_wp2;refine⟨⟨toks++[⟨3,[],line,col⟩],i+1,line,col+1,false,_,rfl,Qid ⟨3,[],line,col⟩ HO1.o,HB1.o,ZO,⟨b1,by omega,by omega,by omega,by simp at b3 ⊢;omega⟩,?_⟩,by simp[RMu,frR,intOf];omega⟩;rw[←hR.o,hD.o,Qlh HC.o];rfl
  ·go_wp2_with (at_builtin;refine QL [.int .i64 3,.string ⟨#[]⟩,.int .i64 line,.int .i64 col] rfl _ _ 222 rfl B 232 _ 4 40 Tryz.underlying222 QKe rfl ZO _ _ _ HO.o rfl rfl rfl rfl (by unfold maxLen;omega) ZO hBw ?_;intro g cap w1 hown1 hgrow hg1 hg2;have hb1:=Below.of_grown hgrow HO.o hBw;have hsz:=hb1.size;have HO1:=Zh hown1;have HB1:=Zh (hbel.o.trans hb1);clear hown1 hgrow hb1);refine wp_loop_rounds 1 ?_;rw[rounds_succ];go_wp2;refine⟨⟨toks++[⟨3,[],line,col⟩],i+1,line,col+1,false,_,rfl,Qid ⟨3,[],line,col⟩ HO1.o,HB1.o,ZO,⟨b1,by omega,by omega,by omega,by simp at b3 ⊢;omega⟩,?_⟩,by simp[RMu,frR,intOf];omega⟩;rw[←hR.o,hD.o,Qlh HC.o];rfl
theorem QZl (s:ByteArray)(w0:World)(B:Nat)(R:Qub)(w:World)(u:Nat→Value)(toks:List Tok)(i line col:Nat)(op:Bool)(v:Value)(hB:Hid (w0.heap.size=B))(Q:Exit→Act→World→Prop)(hret:∀a w,bodyPost Tryz.prog Tryz.f171 (QGb w0 R) .ret a w→Q .ret a w)(hown:w.ownsRow B 232 4 v toks.length (toks.map Qpa).flatten)(hbel:Hid (Below B w0 w))(hBw:B≤w.heap.size)(hbd:BdR s toks i line col op)(hi:i<s.size)(HC:Hid (s[i].toNat=61))(hR:Hid (lex (s.data.toList.drop i) line col op toks=R)):
  QKb.wp Tryz.prog (Exit.then (fun a' w'=>RInv s w0 B R a' w'∧RMu s a' w' < RMu s (frR s v line col op i u) w) Q) (frR s v line col op i u) w:=by
 have b1:=hbd.size;have b2:=hbd.line;have b3:=hbd.toks;have b4:=hbd.col;have hD:=Zh (QYa s i hi);have HO:=Zh hown;have hret':=Zh hret;clear hbd hown hret;have t32:(((s[i]).toNat:Int)==32)=false:=by simp;have:=HC.o;omega
 have t9:(((s[i]).toNat:Int)==9)=false:=by simp;have:=HC.o;omega
 have t10:(((s[i]).toNat:Int)==10)=false:=by simp;have:=HC.o;omega
 have t59:(((s[i]).toNat:Int)==59)=false:=by simp;have:=HC.o;omega
 have t35:(((s[i]).toNat:Int)==35)=false:=by simp;have:=HC.o;omega
 have t61:(((s[i]).toNat:Int)==61)=true:=by simp;have:=HC.o;omega
 conv=>arg 2;whnf
 unfold frR;go_wp2_with (at_builtin;refine QL [.int .i64 2,.string ⟨#[61]⟩,.int .i64 line,.int .i64 col] rfl _ _ 222 rfl B 232 _ 4 40 Tryz.underlying222 QKe rfl ZO _ _ _ HO.o rfl rfl rfl rfl (by unfold maxLen;omega) ZO hBw ?_;intro g cap w1 hown1 hgrow hg1 hg2;have hb1:=Below.of_grown hgrow HO.o hBw;have hsz:=hb1.size;have HO1:=Zh hown1;have HB1:=Zh (hbel.o.trans hb1);clear hown1 hgrow hb1);refine⟨⟨toks++[⟨2,[61],line,col⟩],i+1,line,col+1,true,_,rfl,Qid ⟨2,[61],line,col⟩ HO1.o,HB1.o,ZO,⟨b1,by omega,by omega,by omega,by simp at b3 ⊢;omega⟩,?_⟩,by simp[RMu,frR,intOf];omega⟩;rw[←hR.o,hD.o,QSq HC.o];rfl
theorem QXl (s:ByteArray)(w0:World)(B:Nat)(R:Qub)(w:World)(u:Nat→Value)(toks:List Tok)(i line col:Nat)(op:Bool)(v:Value)(hB:Hid (w0.heap.size=B))(Q:Exit→Act→World→Prop)(hret:∀a w,bodyPost Tryz.prog Tryz.f171 (QGb w0 R) .ret a w→Q .ret a w)(hown:w.ownsRow B 232 4 v toks.length (toks.map Qpa).flatten)(hbel:Hid (Below B w0 w))(hBw:B≤w.heap.size)(hbd:BdR s toks i line col op)(hi:i<s.size)(HC:Hid ((s[i].toNat≠32∧s[i].toNat≠9∧s[i].toNat≠59∧s[i].toNat≠35∧s[i].toNat≠10∧s[i].toNat≠61)∧Qsb (s[i].toNat:Int)=false))(hR:Hid (lex (s.data.toList.drop i) line col op toks=R)):
  QKb.wp Tryz.prog (Exit.then (fun a' w'=>RInv s w0 B R a' w'∧RMu s a' w' < RMu s (frR s v line col op i u) w) Q) (frR s v line col op i u) w:=by
 have b1:=hbd.size;have b2:=hbd.line;have b3:=hbd.toks;have b4:=hbd.col;have hD:=Zh (QYa s i hi);have HO:=Zh hown;have hret':=Zh hret;clear hbd hown hret;have t32:(((s[i]).toNat:Int)==32)=false:=by simp;have:=HC.o;omega
 have t9:(((s[i]).toNat:Int)==9)=false:=by simp;have:=HC.o;omega
 have t10:(((s[i]).toNat:Int)==10)=false:=by simp;have:=HC.o;omega
 have t59:(((s[i]).toNat:Int)==59)=false:=by simp;have:=HC.o;omega
 have t35:(((s[i]).toNat:Int)==35)=false:=by simp;have:=HC.o;omega
 have t61:(((s[i]).toNat:Int)==61)=false:=by simp;have:=HC.o;omega
 have hp:QOa (s[i].toNat:Int)=false∧QAc (s[i].toNat:Int)=false:=by have:=HC.o.2;unfold Qsb at this;unfold QOa;simp at this ⊢;exact⟨⟨this.1.1,this.2⟩,this.1.2⟩
 obtain⟨hp1,hp2⟩:=hp
 conv=>arg 2;whnf
 unfold frR;go_wp2_with (first|(go_at_call 218;refine(QDa _ _).mono ?_;rintro e w1 ⟨rfl,rfl⟩)|(go_at_call 219;refine(QQa _ _).mono ?_;rintro e w1 ⟨rfl,rfl⟩))
 try simp only[Exit.then,Exit.inBlock]
 refine hret'.o _ _ (bodyPost_ret (QCb rfl _ _ _) rfl ?_);rw[←hR.o,hD.o,QRq HC.o.1.1 HC.o.1.2.1 HC.o.1.2.2.1 HC.o.1.2.2.2.1 HC.o.1.2.2.2.2.1 HC.o.1.2.2.2.2.2 HC.o.2];exact⟨_,rfl,Qg.nil,by rw[hB.o];exact hbel.o⟩
theorem QSf (s:ByteArray)(i:Nat)(hi:i<s.size)(h:s[i].toNat=35){line col:Int}{op:Bool}{acc:List Tok}:lex (s.data.toList.drop i) line col op acc =
  lex ((s.data.toList.drop i).dropWhile fun b=>b.toNat != 10) line (col+(((s.data.toList.drop i).takeWhile fun b=>b.toNat != 10).length:Int)) false (fin op line col acc):=by
 rw[QYa s i hi,Qms h,List.dropWhile_cons,List.takeWhile_cons,if_pos (by rw[h];rfl),if_pos (by rw[h];rfl),List.length_cons]
 congr 1
 omega
theorem QVn (s:ByteArray)(w0:World)(B:Nat)(R:Qub)(w:World)(u:Nat→Value)(toks:List Tok)(i line col:Nat)(op:Bool)(v:Value)(hB:Hid (w0.heap.size=B))(Q:Exit→Act→World→Prop)(hret:∀a w,bodyPost Tryz.prog Tryz.f171 (QGb w0 R) .ret a w→Q .ret a w)(hown:w.ownsRow B 232 4 v toks.length (toks.map Qpa).flatten)(hbel:Hid (Below B w0 w))(hBw:B≤w.heap.size)(hbd:BdR s toks i line col op)(hi:i<s.size)(HC:Hid (s[i].toNat=35))(hR:Hid (lex (s.data.toList.drop i) line col op toks=R)):
  QKb.wp Tryz.prog (Exit.then (fun a' w'=>RInv s w0 B R a' w'∧RMu s a' w' < RMu s (frR s v line col op i u) w) Q) (frR s v line col op i u) w:=by
 have b1:=hbd.size;have b2:=hbd.line;have b3:=hbd.toks;have b4:=hbd.col;have hD:=Zh (QYa s i hi);have HO:=Zh hown;have hret':=Zh hret;clear hbd hown hret;have t32:(((s[i]).toNat:Int)==32)=false:=by simp;have:=HC.o;omega
 have t9:(((s[i]).toNat:Int)==9)=false:=by simp;have:=HC.o;omega
 have t10:(((s[i]).toNat:Int)==10)=false:=by simp;have:=HC.o;omega
 have t59:(((s[i]).toNat:Int)==59)=false:=by simp;have:=HC.o;omega
 have t35:(((s[i]).toNat:Int)==35)=true:=by simp;have:=HC.o;omega
 cases op
 ·conv=>arg 2;whnf
  unfold frR;go_wp2;go_loop [8,10] (fun cv iv=>∃p:Nat,i≤p∧p≤s.size∧cv=.int .i64 ((col+(p-i):Nat):Int)∧iv=.int .i64 p ∧
    Hid ((s.data.toList.drop p).dropWhile (fun b=>b.toNat != 10)=(s.data.toList.drop i).dropWhile (fun b=>b.toNat != 10)∧((s.data.toList.drop p).takeWhile (fun b=>b.toNat != 10)).length+(p-i)=((s.data.toList.drop i).takeWhile (fun b=>b.toNat != 10)).length))
   (fun _ iv=>s.size-(intOf iv).toNat)
  case atStart=>exact⟨i,Nat.le_refl _,by omega,by simp,rfl,rfl,by simp⟩
  case round=>
   obtain⟨p,p1,p2,rfl,rfl,hP⟩:=hrel;by_cases hp:p<s.size
   ·have hDp:=Zh (QYa s p hp)
    cases h10:(((s[p]).toNat:Int)==10)
    ·have h10':(((s[p]).toNat:Int) != 10)=true:=by simp at h10 ⊢;exact h10
     go_wp2;go_round
     case rel=>
      refine⟨p+1,by omega,by omega,by congr 1;omega,rfl,?_⟩;have hn:(s[p].toNat != 10)=true:=by simp at h10 ⊢;omega
      have h1:=hP.o;rw[hDp.o,List.dropWhile_cons,List.takeWhile_cons,if_pos hn,if_pos hn,List.length_cons] at h1;exact⟨h1.1,by omega⟩
     case measure=>simp[intOf];omega
    ·have h10':(((s[p]).toNat:Int) != 10)=false:=by simp at h10 ⊢;exact h10
     have hn:¬(s[p].toNat != 10)=true:=by simp at h10 ⊢;omega
     have h1:=hP.o;rw[hDp.o,List.dropWhile_cons,List.takeWhile_cons,if_neg hn,if_neg hn] at h1;have hpi:i<p:=by
      rcases Nat.lt_or_ge i p with h|h
      ·exact h
      ·have:i=p:=by omega
       subst this;have:=HC.o;simp at h10;omega
     have H1:=Zh h1;clear h1 hP;go_wp2;refine⟨⟨toks,p+1,line+1,1,false,_,rfl,HO.o,hbel.o,hBw,⟨b1,by omega,by omega,by omega,by simp at b3 ⊢;omega⟩,?_⟩,by simp[RMu,frR,intOf];omega⟩;have h2:=H1.o;rw[←hR.o,QSf s i hi HC.o,←h2.1,Qmh (by simp at h10;omega)];rfl
   ·have hps:p=s.size:=by omega
    subst hps;have h1:=hP.o;rw[Qef s s.size (Nat.le_refl _)] at h1;have H1:=Zh h1;clear h1 hP;go_wp2;refine⟨⟨toks,s.size,line,col+(s.size-i),false,_,rfl,HO.o,hbel.o,hBw,⟨b1,by omega,by omega,by omega,by simp at b3 ⊢;omega⟩,?_⟩,by simp[RMu,frR,intOf];omega⟩;have h2:=H1.o;rw[←hR.o,QSf s i hi HC.o,←h2.1,Qef s s.size (Nat.le_refl _)];simp only[List.takeWhile_nil,List.length_nil,Nat.zero_add] at h2;rw[←h2.2];simp only[List.dropWhile_nil];rfl
 ·conv=>arg 2;whnf
  unfold frR;go_wp2_with (at_builtin;refine QL [.int .i64 3,.string ⟨#[]⟩,.int .i64 line,.int .i64 col] rfl _ _ 222 rfl B 232 _ 4 40 Tryz.underlying222 QKe rfl ZO _ _ _ HO.o rfl rfl rfl rfl (by unfold maxLen;omega) ZO hBw ?_;intro g cap w1 hown1 hgrow hg1 hg2;have hb1:=Below.of_grown hgrow HO.o hBw;have hsz:=hb1.size;have HO1:=Zh hown1;have HB1:=Zh (hbel.o.trans hb1);clear hown1 hgrow hb1);go_loop [8,10] (fun cv iv=>∃p:Nat,i≤p∧p≤s.size∧cv=.int .i64 ((col+(p-i):Nat):Int)∧iv=.int .i64 p ∧
    Hid ((s.data.toList.drop p).dropWhile (fun b=>b.toNat != 10)=(s.data.toList.drop i).dropWhile (fun b=>b.toNat != 10)∧((s.data.toList.drop p).takeWhile (fun b=>b.toNat != 10)).length+(p-i)=((s.data.toList.drop i).takeWhile (fun b=>b.toNat != 10)).length))
   (fun _ iv=>s.size-(intOf iv).toNat)
  case atStart=>exact⟨i,Nat.le_refl _,by omega,by simp,rfl,rfl,by simp⟩
  case round=>
   obtain⟨p,p1,p2,rfl,rfl,hP⟩:=hrel;by_cases hp:p<s.size
   ·have hDp:=Zh (QYa s p hp)
    cases h10:(((s[p]).toNat:Int)==10)
    ·have h10':(((s[p]).toNat:Int) != 10)=true:=by simp at h10 ⊢;exact h10
     go_wp2;go_round
     case rel=>
      refine⟨p+1,by omega,by omega,by congr 1;omega,rfl,?_⟩;have hn:(s[p].toNat != 10)=true:=by simp at h10 ⊢;omega
      have h1:=hP.o;rw[hDp.o,List.dropWhile_cons,List.takeWhile_cons,if_pos hn,if_pos hn,List.length_cons] at h1;exact⟨h1.1,by omega⟩
     case measure=>simp[intOf];omega
    ·have h10':(((s[p]).toNat:Int) != 10)=false:=by simp at h10 ⊢;exact h10
     have hn:¬(s[p].toNat != 10)=true:=by simp at h10 ⊢;omega
     have h1:=hP.o;rw[hDp.o,List.dropWhile_cons,List.takeWhile_cons,if_neg hn,if_neg hn] at h1;have hpi:i<p:=by
      rcases Nat.lt_or_ge i p with h|h
      ·exact h
      ·have:i=p:=by omega
       subst this;have:=HC.o;simp at h10;omega
     have H1:=Zh h1;clear h1 hP;go_wp2;refine⟨⟨(toks++[⟨3,[],line,col⟩]),p+1,line+1,1,false,_,rfl,Qid ⟨3,[],line,col⟩ HO1.o,HB1.o,ZO,⟨b1,by omega,by omega,by omega,by simp at b3 ⊢;omega⟩,?_⟩,by simp[RMu,frR,intOf];omega⟩;have h2:=H1.o;rw[←hR.o,QSf s i hi HC.o,←h2.1,Qmh (by simp at h10;omega)];rfl
   ·have hps:p=s.size:=by omega
    subst hps;have h1:=hP.o;rw[Qef s s.size (Nat.le_refl _)] at h1;have H1:=Zh h1;clear h1 hP;go_wp2;refine⟨⟨(toks++[⟨3,[],line,col⟩]),s.size,line,col+(s.size-i),false,_,rfl,Qid ⟨3,[],line,col⟩ HO1.o,HB1.o,ZO,⟨b1,by omega,by omega,by omega,by simp at b3 ⊢;omega⟩,?_⟩,by simp[RMu,frR,intOf];omega⟩;have h2:=H1.o;rw[←hR.o,QSf s i hi HC.o,←h2.1,Qef s s.size (Nat.le_refl _)];simp only[List.takeWhile_nil,List.length_nil,Nat.zero_add] at h2;rw[←h2.2];simp only[List.dropWhile_nil];rfl
theorem Qna (c:Int):Qsb c=(QOa c||QAc c):=by
 unfold Qsb QOa
 cases Qjb c <;> cases QAc c <;> cases (c==95) <;> rfl
theorem Qam (s:ByteArray)(w0:World)(B:Nat)(R:Qub)(w:World)(u:Nat→Value)(toks:List Tok)(i line col:Nat)(op:Bool)(v:Value)(hB:Hid (w0.heap.size=B))(Q:Exit→Act→World→Prop)(hret:∀a w,bodyPost Tryz.prog Tryz.f171 (QGb w0 R) .ret a w→Q .ret a w)(hown:w.ownsRow B 232 4 v toks.length (toks.map Qpa).flatten)(hbel:Hid (Below B w0 w))(hBw:B≤w.heap.size)(hbd:BdR s toks i line col op)(hi:i<s.size)(HC:Hid ((s[i].toNat≠32∧s[i].toNat≠9∧s[i].toNat≠59∧s[i].toNat≠35∧s[i].toNat≠10∧s[i].toNat≠61)∧QOa (s[i].toNat:Int)=false∧QAc (s[i].toNat:Int)=true))(hR:Hid (lex (s.data.toList.drop i) line col op toks=R)):
  QKb.wp Tryz.prog (Exit.then (fun a' w'=>RInv s w0 B R a' w'∧RMu s a' w' < RMu s (frR s v line col op i u) w) Q) (frR s v line col op i u) w:=by
 have b1:=hbd.size;have b2:=hbd.line;have b3:=hbd.toks;have b4:=hbd.col;have hD:=Zh (QYa s i hi);have HO:=Zh hown;have hret':=Zh hret;clear hbd hown hret;have t32:(((s[i]).toNat:Int)==32)=false:=by simp;have:=HC.o;omega
 have t9:(((s[i]).toNat:Int)==9)=false:=by simp;have:=HC.o;omega
 have t10:(((s[i]).toNat:Int)==10)=false:=by simp;have:=HC.o;omega
 have t59:(((s[i]).toNat:Int)==59)=false:=by simp;have:=HC.o;omega
 have t35:(((s[i]).toNat:Int)==35)=false:=by simp;have:=HC.o;omega
 have t61:(((s[i]).toNat:Int)==61)=false:=by simp;have:=HC.o;omega
 have hp1:=HC.o.2.1;have hp2:=HC.o.2.2
 conv=>arg 2;whnf
 unfold frR;go_wp2_with (first|(go_at_call 218;refine(QDa _ _).mono ?_;rintro e w1 ⟨rfl,rfl⟩)|(go_at_call 219;refine(QQa _ _).mono ?_;rintro e w1 ⟨rfl,rfl⟩));go_loop [12] (fun nv=>∃n:Nat,i+n≤s.size∧nv=.int .i64 n∧Hid (n+wlen s (i+n)=wlen s i)) (fun nv=>s.size-i-(intOf nv).toNat)
 case atStart=>exact⟨0,by omega,rfl,by unfold Hid;simp⟩
 case round=>
  obtain⟨n,hn,rfl,hw⟩:=hrel;have hx:((i:Int)+(n:Int)).toNat=i+n:=by omega
  by_cases hlt:i+n<s.size
  ·skip
   cases hl:QOa (s[i+n].toNat:Int)
   ·cases hg:QAc (s[i+n].toNat:Int)
    ·have h0:=Zh (QZk s (i+n) hlt (by rw[Qna,hl,hg];rfl));have hfin:n=wlen s i:=by have h1:=hw.o;have h2:=h0.o;omega
     have hF:=Zh hfin;clear hfin h0 hw;go_wp2_with (first|(go_at_call 218;refine(QDa _ _).mono ?_;rintro e w1 ⟨rfl,rfl⟩)|(go_at_call 219;refine(QQa _ _).mono ?_;rintro e w1 ⟨rfl,rfl⟩))
     try simp only[Exit.then,Exit.inBlock]
     refine hret'.o _ _ (bodyPost_ret (QCb rfl _ _ _) rfl ?_);rw[←hR.o,hD.o,QAk (c:=s[i]) (by show Qsb _=true;rw[Qna,hp1,hp2];rfl) hp2];exact⟨_,rfl,Qg.nil,by rw[hB.o];exact hbel.o⟩
    ·have h0:=Zh (Qfe s (i+n) hlt (by rw[Qna,hl,hg];rfl));go_wp2_with (first|(go_at_call 218;refine(QDa _ _).mono ?_;rintro e w1 ⟨rfl,rfl⟩)|(go_at_call 219;refine(QQa _ _).mono ?_;rintro e w1 ⟨rfl,rfl⟩));go_round
     case rel=>exact⟨n+1,by omega,by go_num,by have h1:=hw.o;have h2:=h0.o;unfold Hid;rw[show i+(n+1)=i+n+1 from by omega];omega⟩
     case measure=>simp[intOf];omega
   ·have h0:=Zh (Qfe s (i+n) hlt (by rw[Qna,hl];rfl));go_wp2_with (first|(go_at_call 218;refine(QDa _ _).mono ?_;rintro e w1 ⟨rfl,rfl⟩)|(go_at_call 219;refine(QQa _ _).mono ?_;rintro e w1 ⟨rfl,rfl⟩));go_round
    case rel=>exact⟨n+1,by omega,by go_num,by have h1:=hw.o;have h2:=h0.o;unfold Hid;rw[show i+(n+1)=i+n+1 from by omega];omega⟩
    case measure=>simp[intOf];omega
  ·have h0:=Zh (QNi s (i+n) ZO);have hfin:n=wlen s i:=by have h1:=hw.o;have h2:=h0.o;omega
   have hF:=Zh hfin;clear hfin h0 hw;go_wp2_with (first|(go_at_call 218;refine(QDa _ _).mono ?_;rintro e w1 ⟨rfl,rfl⟩)|(go_at_call 219;refine(QQa _ _).mono ?_;rintro e w1 ⟨rfl,rfl⟩))
   try simp only[Exit.then,Exit.inBlock]
   refine hret'.o _ _ (bodyPost_ret (QCb rfl _ _ _) rfl ?_);rw[←hR.o,hD.o,QAk (c:=s[i]) (by show Qsb _=true;rw[Qna,hp1,hp2];rfl) hp2];exact⟨_,rfl,Qg.nil,by rw[hB.o];exact hbel.o⟩
theorem Qel (s:ByteArray)(w0:World)(B:Nat)(R:Qub)(w:World)(u:Nat→Value)(toks:List Tok)(i line col:Nat)(op:Bool)(v:Value)(hB:Hid (w0.heap.size=B))(Q:Exit→Act→World→Prop)(hret:∀a w,bodyPost Tryz.prog Tryz.f171 (QGb w0 R) .ret a w→Q .ret a w)(hown:w.ownsRow B 232 4 v toks.length (toks.map Qpa).flatten)(hbel:Hid (Below B w0 w))(hBw:B≤w.heap.size)(hbd:BdR s toks i line col op)(hi:i<s.size)(HC:Hid ((s[i].toNat≠32∧s[i].toNat≠9∧s[i].toNat≠59∧s[i].toNat≠35∧s[i].toNat≠10∧s[i].toNat≠61)∧QOa (s[i].toNat:Int)=true∧QAc (s[i].toNat:Int)=false))(hR:Hid (lex (s.data.toList.drop i) line col op toks=R)):
  QKb.wp Tryz.prog (Exit.then (fun a' w'=>RInv s w0 B R a' w'∧RMu s a' w' < RMu s (frR s v line col op i u) w) Q) (frR s v line col op i u) w:=by
 have b1:=hbd.size;have b2:=hbd.line;have b3:=hbd.toks;have b4:=hbd.col;have hD:=Zh (QYa s i hi);have HO:=Zh hown;have hret':=Zh hret;clear hbd hown hret;have t32:(((s[i]).toNat:Int)==32)=false:=by simp;have:=HC.o;omega
 have t9:(((s[i]).toNat:Int)==9)=false:=by simp;have:=HC.o;omega
 have t10:(((s[i]).toNat:Int)==10)=false:=by simp;have:=HC.o;omega
 have t59:(((s[i]).toNat:Int)==59)=false:=by simp;have:=HC.o;omega
 have t35:(((s[i]).toNat:Int)==35)=false:=by simp;have:=HC.o;omega
 have t61:(((s[i]).toNat:Int)==61)=false:=by simp;have:=HC.o;omega
 have hp1:=HC.o.2.1;have hp2:=HC.o.2.2
 conv=>arg 2;whnf
 unfold frR;go_wp2_with (first|(go_at_call 218;refine(QDa _ _).mono ?_;rintro e w1 ⟨rfl,rfl⟩)|(go_at_call 219;refine(QQa _ _).mono ?_;rintro e w1 ⟨rfl,rfl⟩));go_loop [12] (fun nv=>∃n:Nat,i+n≤s.size∧nv=.int .i64 n∧Hid (n+wlen s (i+n)=wlen s i)) (fun nv=>s.size-i-(intOf nv).toNat)
 case atStart=>exact⟨0,by omega,rfl,by unfold Hid;simp⟩
 case round=>
  obtain⟨n,hn,rfl,hw⟩:=hrel;have hx:((i:Int)+(n:Int)).toNat=i+n:=by omega
  by_cases hlt:i+n<s.size
  ·skip
   cases hl:QOa (s[i+n].toNat:Int)
   ·cases hg:QAc (s[i+n].toNat:Int)
    ·have h0:=Zh (QZk s (i+n) hlt (by rw[Qna,hl,hg];rfl));have hfin:n=wlen s i:=by have h1:=hw.o;have h2:=h0.o;omega
     have hF:=Zh hfin;clear hfin h0 hw;by_cases hlong:n≤16
     ·have q1:(i:Int)≤(i:Int)+(n:Int):=by omega
      have q2:(i:Int)+(n:Int)≤(s.size:Int):=by omega
      go_wp2_with (first|(at_builtin;refine QL [.int .i64 1,.string (s.extract i (i+n)),.int .i64 line,.int .i64 col] rfl _ _ 222 rfl B 232 _ 4 40 Tryz.underlying222 QKe rfl ZO _ _ _ HO.o rfl rfl rfl rfl (by unfold maxLen;omega) ZO hBw ?_;intro g cap w1 hown1 hgrow hg1 hg2;have hb1:=Below.of_grown hgrow HO.o hBw;have hsz:=hb1.size;have HO1:=Zh hown1;have HB1:=Zh (hbel.o.trans hb1);clear hown1 hgrow hb1)|(first|(go_at_call 218;refine(QDa _ _).mono ?_;rintro e w1 ⟨rfl,rfl⟩)|(go_at_call 219;refine(QQa _ _).mono ?_;rintro e w1 ⟨rfl,rfl⟩)));have hl2:¬16<((s[i]::s.data.toList.drop (i+1)).takeWhile Qha).length:=by
       rw[←hD.o];have:=hF.o;unfold wlen at this;omega
      have hcol:((List.takeWhile Qha (s[i]::List.drop (i+1) s.data.toList)).length:Int)=n:=by
       rw[←hD.o];have:=hF.o;unfold wlen at this;omega
      have htxt:(s.extract i (i+n)).data.toList=List.takeWhile Qha (s[i]::List.drop (i+1) s.data.toList):=by
       rw[←hD.o,←Qhe,show((s.data.toList.drop i).takeWhile Qha).length=n from hF.o.symm,Lib.extract_data,Nat.add_sub_cancel_left]
      have hdrop:List.dropWhile Qha (s[i]::List.drop (i+1) s.data.toList)=List.drop (i+n) s.data.toList:=by
       rw[←hD.o,←Qwe,show((s.data.toList.drop i).takeWhile Qha).length=n from hF.o.symm,List.drop_drop]
      have hn1:1≤n:=by
       have h2:=Qfe s i hi (by rw[Qna,hp1];rfl);have h3:=hF.o;omega
      refine⟨⟨toks++[⟨1,(s.extract i (i+n)).data.toList,line,col⟩],i+n,line,col+n,true,_,rfl,Qid ⟨1,(s.extract i (i+n)).data.toList,line,col⟩ HO1.o,HB1.o,ZO,⟨b1,by omega,by omega,by omega,by simp at b3 ⊢;omega⟩,?_⟩,by simp[RMu,frR,intOf];omega⟩;rw[←hR.o,hD.o,Qym (c:=s[i]) (by show Qsb _=true;rw[Qna,hp1];rfl) hp2 hl2,hcol,hdrop,htxt];rfl
     ·go_wp2_with (first|(go_at_call 218;refine(QDa _ _).mono ?_;rintro e w1 ⟨rfl,rfl⟩)|(go_at_call 219;refine(QQa _ _).mono ?_;rintro e w1 ⟨rfl,rfl⟩));have hl2:16<((s[i]::s.data.toList.drop (i+1)).takeWhile Qha).length:=by
       rw[←hD.o];have:=hF.o;unfold wlen at this;omega
      try simp only[Exit.then,Exit.inBlock]
      refine hret'.o _ _ (bodyPost_ret (QCb rfl _ _ _) rfl ?_);rw[←hR.o,hD.o,Qzm (c:=s[i]) (by show Qsb _=true;rw[Qna,hp1];rfl) hp2 hl2];exact⟨_,rfl,Qg.nil,by rw[hB.o];exact hbel.o⟩
    ·have h0:=Zh (Qfe s (i+n) hlt (by rw[Qna,hl,hg];rfl));go_wp2_with (first|(go_at_call 218;refine(QDa _ _).mono ?_;rintro e w1 ⟨rfl,rfl⟩)|(go_at_call 219;refine(QQa _ _).mono ?_;rintro e w1 ⟨rfl,rfl⟩));go_round
     case rel=>exact⟨n+1,by omega,by go_num,by have h1:=hw.o;have h2:=h0.o;unfold Hid;rw[show i+(n+1)=i+n+1 from by omega];omega⟩
     case measure=>simp[intOf];omega
   ·have h0:=Zh (Qfe s (i+n) hlt (by rw[Qna,hl];rfl));go_wp2_with (first|(go_at_call 218;refine(QDa _ _).mono ?_;rintro e w1 ⟨rfl,rfl⟩)|(go_at_call 219;refine(QQa _ _).mono ?_;rintro e w1 ⟨rfl,rfl⟩));go_round
    case rel=>exact⟨n+1,by omega,by go_num,by have h1:=hw.o;have h2:=h0.o;unfold Hid;rw[show i+(n+1)=i+n+1 from by omega];omega⟩
    case measure=>simp[intOf];omega
  ·have h0:=Zh (QNi s (i+n) ZO);have hfin:n=wlen s i:=by have h1:=hw.o;have h2:=h0.o;omega
   have hF:=Zh hfin;clear hfin h0 hw;by_cases hlong:n≤16
   ·have q1:(i:Int)≤(i:Int)+(n:Int):=by omega
    have q2:(i:Int)+(n:Int)≤(s.size:Int):=by omega
    go_wp2_with (first|(at_builtin;refine QL [.int .i64 1,.string (s.extract i (i+n)),.int .i64 line,.int .i64 col] rfl _ _ 222 rfl B 232 _ 4 40 Tryz.underlying222 QKe rfl ZO _ _ _ HO.o rfl rfl rfl rfl (by unfold maxLen;omega) ZO hBw ?_;intro g cap w1 hown1 hgrow hg1 hg2;have hb1:=Below.of_grown hgrow HO.o hBw;have hsz:=hb1.size;have HO1:=Zh hown1;have HB1:=Zh (hbel.o.trans hb1);clear hown1 hgrow hb1)|(first|(go_at_call 218;refine(QDa _ _).mono ?_;rintro e w1 ⟨rfl,rfl⟩)|(go_at_call 219;refine(QQa _ _).mono ?_;rintro e w1 ⟨rfl,rfl⟩)));have hl2:¬16<((s[i]::s.data.toList.drop (i+1)).takeWhile Qha).length:=by
     rw[←hD.o];have:=hF.o;unfold wlen at this;omega
    have hcol:((List.takeWhile Qha (s[i]::List.drop (i+1) s.data.toList)).length:Int)=n:=by
     rw[←hD.o];have:=hF.o;unfold wlen at this;omega
    have htxt:(s.extract i (i+n)).data.toList=List.takeWhile Qha (s[i]::List.drop (i+1) s.data.toList):=by
     rw[←hD.o,←Qhe,show((s.data.toList.drop i).takeWhile Qha).length=n from hF.o.symm,Lib.extract_data,Nat.add_sub_cancel_left]
    have hdrop:List.dropWhile Qha (s[i]::List.drop (i+1) s.data.toList)=List.drop (i+n) s.data.toList:=by
     rw[←hD.o,←Qwe,show((s.data.toList.drop i).takeWhile Qha).length=n from hF.o.symm,List.drop_drop]
    have hn1:1≤n:=by
     have h2:=Qfe s i hi (by rw[Qna,hp1];rfl);have h3:=hF.o;omega
    refine⟨⟨toks++[⟨1,(s.extract i (i+n)).data.toList,line,col⟩],i+n,line,col+n,true,_,rfl,Qid ⟨1,(s.extract i (i+n)).data.toList,line,col⟩ HO1.o,HB1.o,ZO,⟨b1,by omega,by omega,by omega,by simp at b3 ⊢;omega⟩,?_⟩,by simp[RMu,frR,intOf];omega⟩;rw[←hR.o,hD.o,Qym (c:=s[i]) (by show Qsb _=true;rw[Qna,hp1];rfl) hp2 hl2,hcol,hdrop,htxt];rfl
   ·go_wp2_with (first|(go_at_call 218;refine(QDa _ _).mono ?_;rintro e w1 ⟨rfl,rfl⟩)|(go_at_call 219;refine(QQa _ _).mono ?_;rintro e w1 ⟨rfl,rfl⟩));have hl2:16<((s[i]::s.data.toList.drop (i+1)).takeWhile Qha).length:=by
     rw[←hD.o];have:=hF.o;unfold wlen at this;omega
    try simp only[Exit.then,Exit.inBlock]
    refine hret'.o _ _ (bodyPost_ret (QCb rfl _ _ _) rfl ?_);rw[←hR.o,hD.o,Qzm (c:=s[i]) (by show Qsb _=true;rw[Qna,hp1];rfl) hp2 hl2];exact⟨_,rfl,Qg.nil,by rw[hB.o];exact hbel.o⟩
end
section
open Go.RowKit
variable [Base]
theorem QUn (s:ByteArray)(w0:World)(B:Nat)(R:Qub)(w:World)(u:Nat→Value)(toks:List Tok)(line col:Nat)(op:Bool)(v:Value)(Q:Exit→Act→World→Prop)(hexit:∀a w,Qau s w0 B R a w→Q (.exit 0) a w)(hown:w.ownsRow B 232 4 v toks.length (toks.map Qpa).flatten)(hbel:Hid (Below B w0 w))(hBw:B≤w.heap.size)(hbd:BdR s toks s.size line col op)(hR:Hid (lex [] line col op toks=R)):
  QKb.wp Tryz.prog (Exit.then (fun a' w'=>RInv s w0 B R a' w'∧RMu s a' w' < RMu s (frR s v line col op s.size u) w) Q) (frR s v line col op s.size u) w:=by
 have b1:=hbd.size;have HO:=Zh hown;have HBD:=Zh hbd;have hexit':=Zh hexit;clear hbd hown hexit
 conv=>arg 2;whnf
 unfold frR;go_wp2;exact hexit'.o _ _ ⟨toks,line,col,op,v,rfl,HO.o,hbel.o,hBw,HBD.o,hR.o⟩
theorem QWl (s:ByteArray)(w0:World)(B:Nat)(R:Qub)(hB:Hid (w0.heap.size=B))(Q:Exit→Act→World→Prop)(hret:∀a w,bodyPost Tryz.prog Tryz.f171 (QGb w0 R) .ret a w→Q .ret a w)(hexit:∀a w,Qau s w0 B R a w→Q (.exit 0) a w)(a:Act)(w:World)(h:RInv s w0 B R a w):QKb.wp Tryz.prog (Exit.then (fun a' w'=>RInv s w0 B R a' w'∧RMu s a' w' < RMu s a w) Q) a w:=by
 obtain⟨toks,i,line,col,op,v,ha,hown,hbel,hBw,hbd,hR⟩:=h;rw[ha];generalize Qqp a=u;by_cases hi:i<s.size
 ·by_cases h1:s[i].toNat=32
  ·exact QUl s w0 B R w u toks i line col op v hB Q hret hown hbel hBw hbd hi h1 hR
  by_cases h2:s[i].toNat=9
  ·exact Qvq s w0 B R w u toks i line col op v hB Q hret hown hbel hBw hbd hi h2 hR
  by_cases h3:s[i].toNat=59
  ·exact QSn s w0 B R w u toks i line col op v hB Q hret hown hbel hBw hbd hi h3 hR
  by_cases h4:s[i].toNat=35
  ·exact QVn s w0 B R w u toks i line col op v hB Q hret hown hbel hBw hbd hi h4 hR
  by_cases h5:s[i].toNat=10
  ·exact QTn s w0 B R w u toks i line col op v hB Q hret hown hbel hBw hbd hi h5 hR
  by_cases h6:s[i].toNat=61
  ·exact QZl s w0 B R w u toks i line col op v hB Q hret hown hbel hBw hbd hi h6 hR
  cases hp:Qsb (s[i].toNat:Int)
  ·exact QXl s w0 B R w u toks i line col op v hB Q hret hown hbel hBw hbd hi ⟨⟨h1,h2,h3,h4,h5,h6⟩,hp⟩ hR
  ·rw[Qna] at hp
   cases hd:QAc (s[i].toNat:Int)
   ·exact Qel s w0 B R w u toks i line col op v hB Q hret hown hbel hBw hbd hi ⟨⟨h1,h2,h3,h4,h5,h6⟩,by simpa [hd] using hp,hd⟩ hR
   ·refine Qam s w0 B R w u toks i line col op v hB Q hret hown hbel hBw hbd hi ⟨⟨h1,h2,h3,h4,h5,h6⟩,?_,hd⟩ hR;unfold QAc at hd;unfold QOa Qjb;simp at hd ⊢;omega
 ·have hi2:i=s.size:=by have:=hbd.at_;omega
  subst hi2;exact QUn s w0 B R w u toks line col op v Q hexit hown hbel hBw hbd (by rw[Qef s s.size (Nat.le_refl _)] at hR;exact hR)
theorem Qwq (s:ByteArray)(w:World)(hs:4096<s.size):
  Calls Tryz.prog 171 #[.string s] w (QGb w ⟨[],0,0,7⟩):=by
 go_enter Tryz.func171,Tryz.ntmps171;go_wp2;refine bodyPost_ret (QCb rfl _ _ _) rfl ?_;exact⟨_,rfl,Qg.nil,Below.refl _ _⟩
theorem QVl (s:ByteArray)(w:World)(hs:s.size≤4096):
  Calls Tryz.prog 171 #[.string s] w (QGb w (lex s.data.toList 1 1 false [])):=by
 obtain⟨R,hR⟩:∃R,R=lex s.data.toList 1 1 false []:=⟨_,rfl⟩;rw[←hR];obtain⟨B,hB⟩:=Ze w.heap.size;have HR:=Zh hR;have HB:=Zh hB;clear hR hB;go_enter Tryz.func171,Tryz.ntmps171;go_wp2;rename_i K hK;refine wp_loop (RInv s w B R) (RMu s) ?_ ?_
 ·exact⟨[],0,1,1,false,_,rfl,World.ownsRow_nil _ _ _ _,Below.refl _ _,by rw[HB.o];exact Nat.le_refl _,⟨hs,by omega,by omega,by omega,by simp⟩,HR.o.symm⟩
 ·intro a' w' hI;refine QWl s w B R HB _ ?_ ?_ a' w' hI
  ·intro a w h;exact h
  ·rintro a w1 ⟨toks,line,col,op,v,ha,hown,hbel,hBw,hbd,hl⟩;rw[ha];generalize Qqp a=u;have b1:=hbd.size;have b2:=hbd.toks;have HO:=Zh hown;have HBl:=Zh hbel;have HL:=Zh hl;clear hown hbel hl hbd hI;simp only[Exit.inBlock,Exit.then,if_true];refine hK _ _ ?_;unfold frR
   cases op
   ·go_wp2;refine bodyPost_ret (QCb rfl _ _ _) rfl ?_;rw[←HL.o,QHp];exact⟨_,rfl,Qhk HO.o,by rw[HB.o];exact HBl.o⟩
   ·go_wp2_with (at_builtin;refine QL [.int .i64 3,.string ⟨#[]⟩,.int .i64 line,.int .i64 col] rfl _ _ 222 rfl B 232 _ 4 40 Tryz.underlying222 QKe rfl ZO _ _ _ HO.o rfl rfl rfl rfl (by unfold maxLen;omega) ZO hBw ?_;intro g cap w2 hown1 hgrow hg1 hg2;have hb1:=Below.of_grown hgrow HO.o hBw;have hsz:=hb1.size;have HO1:=Zh hown1;have HB1:=Zh (HBl.o.trans hb1);clear hown1 hgrow hb1);refine bodyPost_ret (QCb rfl _ _ _) rfl ?_;rw[←HL.o,QHp];exact⟨_,rfl,Qhk (Qid ⟨3,[],line,col⟩ HO1.o),by rw[HB.o];exact HB1.o⟩
theorem Qxq (s:ByteArray)(w:World):Calls Tryz.prog 171 #[.string s] w (QGb w (Qhd s.data.toList)):=by
 have hl:s.data.toList.length=s.size:=by simp
 unfold Qhd;rw[hl]
 split
 ·rename_i h;exact Qwq s w h
 ·rename_i h;exact QVl s w ZO
end
end Go.Proofs.YtijekimobahgpaaGreatDoor
