/- A part of the proof. -/
import Derived.Test.YtijekimobahgpaaGreatDoorWb14
import Derived.Test.YtijekimobahgpaaGreatDoorWb12
set_option linter.unusedVariables false
set_option linter.unusedSimpArgs false
set_option linter.unusedSectionVars false
set_option maxRecDepth 100000
set_option maxHeartbeats 16000000
namespace Go.Proofs.YtijekimobahgpaaGreatDoor
section
open Go.RowKit
variable [Base]
noncomputable def QKb:Code:=(Tryz.f171.body.bind Qxd).getD .skip
def frR (s:ByteArray)(v:Value)(line col:Int)(op:Bool)(i:Int)(u:Nat→Value):Act:={ tmps:=#[.string s,undef,.slice none 0 0,.int .i64 0,.int .i64 0,.int .i64 0,v,.int .i64 line,.int .i64 col,.bool op,.int .i64 i,u 11,u 12,u 13,u 14,u 15,u 16,u 17,u 18,u 19,u 20,u 21,u 22,u 23,u 24,u 25,u 26,u 27,u 28,u 29,u 30,u 31,u 32,u 33,u 34,u 35,u 36,u 37,u 38,u 39,u 40,u 41,u 42,u 43,u 44,u 45,u 46,u 47,u 48,u 49,u 50,u 51,u 52,u 53,u 54,u 55,u 56,u 57,u 58,u 59,u 60,u 61,u 62,u 63,u 64,u 65,u 66,u 67,u 68,u 69,u 70,u 71,u 72,u 73,u 74,u 75,u 76,u 77,u 78,u 79,u 80,u 81,u 82,u 83,u 84,u 85,u 86,u 87,u 88,u 89,u 90,u 91,u 92,u 93,u 94,u 95,u 96,u 97,u 98,u 99,u 100,u 101,u 102,u 103,u 104,u 105,u 106,u 107,u 108,u 109,u 110,u 111,u 112,u 113,u 114,u 115,u 116,u 117,u 118,u 119,u 120,u 121,u 122,u 123,u 124,u 125,u 126,u 127,u 128,u 129,u 130,u 131,u 132,u 133,u 134,u 135,u 136,u 137,u 138,u 139,u 140,u 141,u 142,u 143,u 144,u 145,u 146,u 147,u 148,u 149,u 150,u 151,u 152,u 153,u 154,u 155,u 156,u 157,u 158,u 159,u 160,u 161,u 162,u 163,u 164,u 165,u 166,u 167,u 168,u 169,u 170,u 171,u 172,u 173],defers:=[] }
structure BdR (s:ByteArray)(toks:List Tok)(i line col:Nat)(op:Bool):Prop where
 size:s.size≤4096
 at_:i≤s.size
 line:line≤i+1
 col:col≤i+1
 toks:toks.length+(if op then 1 else 0)≤2*i
def RInv (s:ByteArray)(w0:World)(B:Nat)(R:Qub)(a:Act)(w:World):Prop:=
 ∃(toks:List Tok) (i line col:Nat) (op:Bool) (v:Value),a=frR s v line col op i (Qqp a)∧w.ownsRow B 232 4 v toks.length (toks.map Qpa).flatten∧Below B w0 w∧B≤w.heap.size∧BdR s toks i line col op ∧
  lex (s.data.toList.drop i) line col op toks=R
def RMu (s:ByteArray)(a:Act)(_:World):Nat:=s.size-(intOf (a.tmps.getD 10 undef)).toNat
def Qau (s:ByteArray)(w0:World)(B:Nat)(R:Qub)(a:Act)(w:World):Prop:=
 ∃(toks:List Tok) (line col:Nat) (op:Bool) (v:Value),a=frR s v line col op s.size (Qqp a)∧w.ownsRow B 232 4 v toks.length (toks.map Qpa).flatten∧Below B w0 w∧B≤w.heap.size∧BdR s toks s.size line col op ∧
  lex [] line col op toks=R
theorem Qid {w:World}{B:Nat}{v:Value}{toks:List Tok}(t:Tok)(h:w.ownsRow B 232 4 v (toks.length+1) ((toks.map Qpa).flatten++Qpa t)):
  w.ownsRow B 232 4 v (toks++[t]).length ((toks++[t]).map Qpa).flatten:=by
 rw[QMr,List.length_append];exact h
theorem Qhk {w:World}{B:Nat}{v:Value}{n:Nat}{toks:List Tok}(h:w.ownsRow B 232 4 v n (toks.map Qpa).flatten):QFb w v toks:=Qg.of_owns h
theorem QUl (s:ByteArray)(w0:World)(B:Nat)(R:Qub)(w:World)(u:Nat→Value)(toks:List Tok)(i line col:Nat)(op:Bool)(v:Value)(hB:Hid (w0.heap.size=B))(Q:Exit→Act→World→Prop)(hret:∀a w,bodyPost Tryz.prog Tryz.f171 (QGb w0 R) .ret a w→Q .ret a w)(hown:w.ownsRow B 232 4 v toks.length (toks.map Qpa).flatten)(hbel:Hid (Below B w0 w))(hBw:B≤w.heap.size)(hbd:BdR s toks i line col op)(hi:i<s.size)(HC:Hid (s[i].toNat=32))(hR:Hid (lex (s.data.toList.drop i) line col op toks=R)):
  QKb.wp Tryz.prog (Exit.then (fun a' w'=>RInv s w0 B R a' w'∧RMu s a' w' < RMu s (frR s v line col op i u) w) Q) (frR s v line col op i u) w:=by
 have b1:=hbd.size;have b2:=hbd.line;have b3:=hbd.toks;have b4:=hbd.col;have hD:=Zh (QYa s i hi);have HO:=Zh hown;have hret':=Zh hret;clear hbd hown hret;have t32:(((s[i]).toNat:Int)==32)=true:=by simp;have:=HC.o;omega
 have t10:(((s[i]).toNat:Int)==10)=false:=by simp;have:=HC.o;omega
 have t59:(((s[i]).toNat:Int)==59)=false:=by simp;have:=HC.o;omega
 have t35:(((s[i]).toNat:Int)==35)=false:=by simp;have:=HC.o;omega
 conv=>arg 2;whnf
 unfold frR;go_wp2;refine⟨⟨toks,i+1,line,col+1,op,v,rfl,HO.o,hbel.o,hBw,⟨b1,by omega,by omega,by omega,by omega⟩,?_⟩,by simp[RMu,frR,intOf];omega⟩;rw[←hR.o,hD.o,Qzk (by have:=HC.o;omega)];rfl
theorem Qvq (s:ByteArray)(w0:World)(B:Nat)(R:Qub)(w:World)(u:Nat→Value)(toks:List Tok)(i line col:Nat)(op:Bool)(v:Value)(hB:Hid (w0.heap.size=B))(Q:Exit→Act→World→Prop)(hret:∀a w,bodyPost Tryz.prog Tryz.f171 (QGb w0 R) .ret a w→Q .ret a w)(hown:w.ownsRow B 232 4 v toks.length (toks.map Qpa).flatten)(hbel:Hid (Below B w0 w))(hBw:B≤w.heap.size)(hbd:BdR s toks i line col op)(hi:i<s.size)(HC:Hid (s[i].toNat=9))(hR:Hid (lex (s.data.toList.drop i) line col op toks=R)):
  QKb.wp Tryz.prog (Exit.then (fun a' w'=>RInv s w0 B R a' w'∧RMu s a' w' < RMu s (frR s v line col op i u) w) Q) (frR s v line col op i u) w:=by
 have b1:=hbd.size;have b2:=hbd.line;have b3:=hbd.toks;have b4:=hbd.col;have hD:=Zh (QYa s i hi);have HO:=Zh hown;have hret':=Zh hret;clear hbd hown hret;have t32:(((s[i]).toNat:Int)==32)=false:=by simp;have:=HC.o;omega
 have t9:(((s[i]).toNat:Int)==9)=true:=by simp;have:=HC.o;omega
 have t10:(((s[i]).toNat:Int)==10)=false:=by simp;have:=HC.o;omega
 have t59:(((s[i]).toNat:Int)==59)=false:=by simp;have:=HC.o;omega
 have t35:(((s[i]).toNat:Int)==35)=false:=by simp;have:=HC.o;omega
 conv=>arg 2;whnf
 unfold frR;go_wp2;refine⟨⟨toks,i+1,line,col+1,op,v,rfl,HO.o,hbel.o,hBw,⟨b1,by omega,by omega,by omega,by omega⟩,?_⟩,by simp[RMu,frR,intOf];omega⟩;rw[←hR.o,hD.o,Qzk (by have:=HC.o;omega)];rfl
theorem QTn (s:ByteArray)(w0:World)(B:Nat)(R:Qub)(w:World)(u:Nat→Value)(toks:List Tok)(i line col:Nat)(op:Bool)(v:Value)(hB:Hid (w0.heap.size=B))(Q:Exit→Act→World→Prop)(hret:∀a w,bodyPost Tryz.prog Tryz.f171 (QGb w0 R) .ret a w→Q .ret a w)(hown:w.ownsRow B 232 4 v toks.length (toks.map Qpa).flatten)(hbel:Hid (Below B w0 w))(hBw:B≤w.heap.size)(hbd:BdR s toks i line col op)(hi:i<s.size)(HC:Hid (s[i].toNat=10))(hR:Hid (lex (s.data.toList.drop i) line col op toks=R)):
  QKb.wp Tryz.prog (Exit.then (fun a' w'=>RInv s w0 B R a' w'∧RMu s a' w' < RMu s (frR s v line col op i u) w) Q) (frR s v line col op i u) w:=by
 have b1:=hbd.size;have b2:=hbd.line;have b3:=hbd.toks;have b4:=hbd.col;have hD:=Zh (QYa s i hi);have HO:=Zh hown;have hret':=Zh hret;clear hbd hown hret;have t32:(((s[i]).toNat:Int)==32)=false:=by simp;have:=HC.o;omega
 have t9:(((s[i]).toNat:Int)==9)=false:=by simp;have:=HC.o;omega
 have t10:(((s[i]).toNat:Int)==10)=true:=by simp;have:=HC.o;omega
 have t59:(((s[i]).toNat:Int)==59)=false:=by simp;have:=HC.o;omega
 have t35:(((s[i]).toNat:Int)==35)=false:=by simp;have:=HC.o;omega
 cases op
 ·conv=>arg 2;whnf
  unfold frR;go_wp2;refine wp_loop_rounds 1 ?_;rw[rounds_succ];go_wp2;refine⟨⟨toks,i+1,line+1,1,false,v,rfl,HO.o,hbel.o,hBw,⟨b1,by omega,by omega,by omega,by simp at b3 ⊢;omega⟩,?_⟩,by simp[RMu,frR,intOf];omega⟩;rw[←hR.o,hD.o,Qmh HC.o];rfl
 ·conv=>arg 2;whnf
  unfold frR;go_wp2_with (at_builtin;refine QL [.int .i64 3,.string ⟨#[]⟩,.int .i64 line,.int .i64 col] rfl _ _ 222 rfl B 232 _ 4 40 Tryz.underlying222 QKe rfl ZO _ _ _ HO.o rfl rfl rfl rfl (by unfold maxLen;omega) ZO hBw ?_;intro g cap w1 hown1 hgrow hg1 hg2;have hb1:=Below.of_grown hgrow HO.o hBw;have hsz:=hb1.size;have HO1:=Zh hown1;have HB1:=Zh (hbel.o.trans hb1);clear hown1 hgrow hb1);refine wp_loop_rounds 1 ?_;rw[rounds_succ];go_wp2;refine⟨⟨toks++[⟨3,[],line,col⟩],i+1,line+1,1,false,_,rfl,Qid ⟨3,[],line,col⟩ HO1.o,HB1.o,ZO,⟨b1,by omega,by omega,by omega,by simp at b3 ⊢;omega⟩,?_⟩,by simp[RMu,frR,intOf];omega⟩;rw[←hR.o,hD.o,Qmh HC.o];rfl
theorem QSn (s:ByteArray)(w0:World)(B:Nat)(R:Qub)(w:World)(u:Nat→Value)(toks:List Tok)(i line col:Nat)(op:Bool)(v:Value)(hB:Hid (w0.heap.size=B))(Q:Exit→Act→World→Prop)(hret:∀a w,bodyPost Tryz.prog Tryz.f171 (QGb w0 R) .ret a w→Q .ret a w)(hown:w.ownsRow B 232 4 v toks.length (toks.map Qpa).flatten)(hbel:Hid (Below B w0 w))(hBw:B≤w.heap.size)(hbd:BdR s toks i line col op)(hi:i<s.size)(HC:Hid (s[i].toNat=59))(hR:Hid (lex (s.data.toList.drop i) line col op toks=R)):
  QKb.wp Tryz.prog (Exit.then (fun a' w'=>RInv s w0 B R a' w'∧RMu s a' w' < RMu s (frR s v line col op i u) w) Q) (frR s v line col op i u) w:=by
 have b1:=hbd.size;have b2:=hbd.line;have b3:=hbd.toks;have b4:=hbd.col;have hD:=Zh (QYa s i hi);have HO:=Zh hown;have hret':=Zh hret;clear hbd hown hret;have t32:(((s[i]).toNat:Int)==32)=false:=by simp;have:=HC.o;omega
 have t9:(((s[i]).toNat:Int)==9)=false:=by simp;have:=HC.o;omega
 have t10:(((s[i]).toNat:Int)==10)=false:=by simp;have:=HC.o;omega
 have t59:(((s[i]).toNat:Int)==59)=true:=by simp;have:=HC.o;omega
 have t35:(((s[i]).toNat:Int)==35)=false:=by simp;have:=HC.o;omega
 cases op
 ·conv=>arg 2;whnf
  unfold frR;by_cases h1:i+1<s.size
  ·cases h2:(((s[i+1]).toNat:Int)==10)
   all_goals
    go_wp2;refine wp_loop_rounds 1 ?_;rw[rounds_succ];go_wp2;refine⟨⟨toks,i+1,line,col+1,false,_,rfl,HO.o,hbel.o,hBw,⟨b1,by omega,by omega,by omega,by simp at b3 ⊢;omega⟩,?_⟩,by simp[RMu,frR,intOf];omega⟩;rw[←hR.o,hD.o,Qlh HC.o];rfl
  ·go_wp2;refine wp_loop_rounds 1 ?_;rw[rounds_succ];go_wp2;refine⟨⟨toks,i+1,line,col+1,false,_,rfl,HO.o,hbel.o,hBw,⟨b1,by omega,by omega,by omega,by simp at b3 ⊢;omega⟩,?_⟩,by simp[RMu,frR,intOf];omega⟩;rw[←hR.o,hD.o,Qlh HC.o];rfl
 ·conv=>arg 2;whnf
  unfold frR;by_cases h1:i+1<s.size
  ·cases h2:(((s[i+1]).toNat:Int)==10)
   all_goals
    go_wp2_with (at_builtin;refine QL [.int .i64 3,.string ⟨#[]⟩,.int .i64 line,.int .i64 col] rfl _ _ 222 rfl B 232 _ 4 40 Tryz.underlying222 QKe rfl ZO _ _ _ HO.o rfl rfl rfl rfl (by unfold maxLen;omega) ZO hBw ?_;intro g cap w1 hown1 hgrow hg1 hg2;have hb1:=Below.of_grown hgrow HO.o hBw;have hsz:=hb1.size;have HO1:=Zh hown1;have HB1:=Zh (hbel.o.trans hb1);clear hown1 hgrow hb1);refine wp_loop_rounds 1 ?_;rw[rounds_succ];go_wp2;refine⟨⟨toks++[⟨3,[],line,col⟩],i+1,line,col+1,false,_,rfl,Qid ⟨3,[],line,col⟩ HO1.o,HB1.o,ZO,⟨b1,by omega,by omega,by omega,by simp at b3 ⊢;omega⟩,?_⟩,by simp[RMu,frR,intOf];omega⟩;rw[←hR.o,hD.o,Qlh HC.o];rfl
  ·go_wp2_with (at_builtin;refine QL [.int .i64 3,.string ⟨#[]⟩,.int .i64 line,.int .i64 col] rfl _ _ 222 rfl B 232 _ 4 40 Tryz.underlying222 QKe rfl ZO _ _ _ HO.o rfl rfl rfl rfl (by unfold maxLen;omega) ZO hBw ?_;intro g cap w1 hown1 hgrow hg1 hg2;have hb1:=Below.of_grown hgrow HO.o hBw;have hsz:=hb1.size;have HO1:=Zh hown1;have HB1:=Zh (hbel.o.trans hb1);clear hown1 hgrow hb1);refine wp_loop_rounds 1 ?_;rw[rounds_succ];go_wp2;refine⟨⟨toks++[⟨3,[],line,col⟩],i+1,line,col+1,false,_,rfl,Qid ⟨3,[],line,col⟩ HO1.o,HB1.o,ZO,⟨b1,by omega,by omega,by omega,by simp at b3 ⊢;omega⟩,?_⟩,by simp[RMu,frR,intOf];omega⟩;rw[←hR.o,hD.o,Qlh HC.o];rfl
theorem QZl (s:ByteArray)(w0:World)(B:Nat)(R:Qub)(w:World)(u:Nat→Value)(toks:List Tok)(i line col:Nat)(op:Bool)(v:Value)(hB:Hid (w0.heap.size=B))(Q:Exit→Act→World→Prop)(hret:∀a w,bodyPost Tryz.prog Tryz.f171 (QGb w0 R) .ret a w→Q .ret a w)(hown:w.ownsRow B 232 4 v toks.length (toks.map Qpa).flatten)(hbel:Hid (Below B w0 w))(hBw:B≤w.heap.size)(hbd:BdR s toks i line col op)(hi:i<s.size)(HC:Hid (s[i].toNat=61))(hR:Hid (lex (s.data.toList.drop i) line col op toks=R)):
  QKb.wp Tryz.prog (Exit.then (fun a' w'=>RInv s w0 B R a' w'∧RMu s a' w' < RMu s (frR s v line col op i u) w) Q) (frR s v line col op i u) w:=by
 have b1:=hbd.size;have b2:=hbd.line;have b3:=hbd.toks;have b4:=hbd.col;have hD:=Zh (QYa s i hi);have HO:=Zh hown;have hret':=Zh hret;clear hbd hown hret;have t32:(((s[i]).toNat:Int)==32)=false:=by simp;have:=HC.o;omega
 have t9:(((s[i]).toNat:Int)==9)=false:=by simp;have:=HC.o;omega
 have t10:(((s[i]).toNat:Int)==10)=false:=by simp;have:=HC.o;omega
 have t59:(((s[i]).toNat:Int)==59)=false:=by simp;have:=HC.o;omega
 have t35:(((s[i]).toNat:Int)==35)=false:=by simp;have:=HC.o;omega
 have t61:(((s[i]).toNat:Int)==61)=true:=by simp;have:=HC.o;omega
 conv=>arg 2;whnf
 unfold frR;go_wp2_with (at_builtin;refine QL [.int .i64 2,.string ⟨#[61]⟩,.int .i64 line,.int .i64 col] rfl _ _ 222 rfl B 232 _ 4 40 Tryz.underlying222 QKe rfl ZO _ _ _ HO.o rfl rfl rfl rfl (by unfold maxLen;omega) ZO hBw ?_;intro g cap w1 hown1 hgrow hg1 hg2;have hb1:=Below.of_grown hgrow HO.o hBw;have hsz:=hb1.size;have HO1:=Zh hown1;have HB1:=Zh (hbel.o.trans hb1);clear hown1 hgrow hb1);refine⟨⟨toks++[⟨2,[61],line,col⟩],i+1,line,col+1,true,_,rfl,Qid ⟨2,[61],line,col⟩ HO1.o,HB1.o,ZO,⟨b1,by omega,by omega,by omega,by simp at b3 ⊢;omega⟩,?_⟩,by simp[RMu,frR,intOf];omega⟩;rw[←hR.o,hD.o,QSq HC.o];rfl
theorem QXl (s:ByteArray)(w0:World)(B:Nat)(R:Qub)(w:World)(u:Nat→Value)(toks:List Tok)(i line col:Nat)(op:Bool)(v:Value)(hB:Hid (w0.heap.size=B))(Q:Exit→Act→World→Prop)(hret:∀a w,bodyPost Tryz.prog Tryz.f171 (QGb w0 R) .ret a w→Q .ret a w)(hown:w.ownsRow B 232 4 v toks.length (toks.map Qpa).flatten)(hbel:Hid (Below B w0 w))(hBw:B≤w.heap.size)(hbd:BdR s toks i line col op)(hi:i<s.size)(HC:Hid ((s[i].toNat≠32∧s[i].toNat≠9∧s[i].toNat≠59∧s[i].toNat≠35∧s[i].toNat≠10∧s[i].toNat≠61)∧Qsb (s[i].toNat:Int)=false))(hR:Hid (lex (s.data.toList.drop i) line col op toks=R)):
  QKb.wp Tryz.prog (Exit.then (fun a' w'=>RInv s w0 B R a' w'∧RMu s a' w' < RMu s (frR s v line col op i u) w) Q) (frR s v line col op i u) w:=by
 have b1:=hbd.size;have b2:=hbd.line;have b3:=hbd.toks;have b4:=hbd.col;have hD:=Zh (QYa s i hi);have HO:=Zh hown;have hret':=Zh hret;clear hbd hown hret;have t32:(((s[i]).toNat:Int)==32)=false:=by simp;have:=HC.o;omega
 have t9:(((s[i]).toNat:Int)==9)=false:=by simp;have:=HC.o;omega
 have t10:(((s[i]).toNat:Int)==10)=false:=by simp;have:=HC.o;omega
 have t59:(((s[i]).toNat:Int)==59)=false:=by simp;have:=HC.o;omega
 have t35:(((s[i]).toNat:Int)==35)=false:=by simp;have:=HC.o;omega
 have t61:(((s[i]).toNat:Int)==61)=false:=by simp;have:=HC.o;omega
 have hp:QOa (s[i].toNat:Int)=false∧QAc (s[i].toNat:Int)=false:=by have:=HC.o.2;unfold Qsb at this;unfold QOa;simp at this ⊢;exact⟨⟨this.1.1,this.2⟩,this.1.2⟩
 obtain⟨hp1,hp2⟩:=hp
 conv=>arg 2;whnf
 unfold frR;go_wp2_with (first|(go_at_call 218;refine(QDa _ _).mono ?_;rintro e w1 ⟨rfl,rfl⟩)|(go_at_call 219;refine(QQa _ _).mono ?_;rintro e w1 ⟨rfl,rfl⟩))
 try simp only[Exit.then,Exit.inBlock]
 refine hret'.o _ _ (bodyPost_ret (QCb rfl _ _ _) rfl ?_);rw[←hR.o,hD.o,QRq HC.o.1.1 HC.o.1.2.1 HC.o.1.2.2.1 HC.o.1.2.2.2.1 HC.o.1.2.2.2.2.1 HC.o.1.2.2.2.2.2 HC.o.2];exact⟨_,rfl,Qg.nil,by rw[hB.o];exact hbel.o⟩
theorem QSf (s:ByteArray)(i:Nat)(hi:i<s.size)(h:s[i].toNat=35){line col:Int}{op:Bool}{acc:List Tok}:lex (s.data.toList.drop i) line col op acc =
  lex ((s.data.toList.drop i).dropWhile fun b=>b.toNat != 10) line (col+(((s.data.toList.drop i).takeWhile fun b=>b.toNat != 10).length:Int)) false (fin op line col acc):=by
 rw[QYa s i hi,Qms h,List.dropWhile_cons,List.takeWhile_cons,if_pos (by rw[h];rfl),if_pos (by rw[h];rfl),List.length_cons]
 congr 1
 omega
theorem QVn (s:ByteArray)(w0:World)(B:Nat)(R:Qub)(w:World)(u:Nat→Value)(toks:List Tok)(i line col:Nat)(op:Bool)(v:Value)(hB:Hid (w0.heap.size=B))(Q:Exit→Act→World→Prop)(hret:∀a w,bodyPost Tryz.prog Tryz.f171 (QGb w0 R) .ret a w→Q .ret a w)(hown:w.ownsRow B 232 4 v toks.length (toks.map Qpa).flatten)(hbel:Hid (Below B w0 w))(hBw:B≤w.heap.size)(hbd:BdR s toks i line col op)(hi:i<s.size)(HC:Hid (s[i].toNat=35))(hR:Hid (lex (s.data.toList.drop i) line col op toks=R)):
  QKb.wp Tryz.prog (Exit.then (fun a' w'=>RInv s w0 B R a' w'∧RMu s a' w' < RMu s (frR s v line col op i u) w) Q) (frR s v line col op i u) w:=by
 have b1:=hbd.size;have b2:=hbd.line;have b3:=hbd.toks;have b4:=hbd.col;have hD:=Zh (QYa s i hi);have HO:=Zh hown;have hret':=Zh hret;clear hbd hown hret;have t32:(((s[i]).toNat:Int)==32)=false:=by simp;have:=HC.o;omega
 have t9:(((s[i]).toNat:Int)==9)=false:=by simp;have:=HC.o;omega
 have t10:(((s[i]).toNat:Int)==10)=false:=by simp;have:=HC.o;omega
 have t59:(((s[i]).toNat:Int)==59)=false:=by simp;have:=HC.o;omega
 have t35:(((s[i]).toNat:Int)==35)=true:=by simp;have:=HC.o;omega
 cases op
 ·conv=>arg 2;whnf
  unfold frR;go_wp2;go_loop [8,10] (fun cv iv=>∃p:Nat,i≤p∧p≤s.size∧cv=.int .i64 ((col+(p-i):Nat):Int)∧iv=.int .i64 p ∧
    Hid ((s.data.toList.drop p).dropWhile (fun b=>b.toNat != 10)=(s.data.toList.drop i).dropWhile (fun b=>b.toNat != 10)∧((s.data.toList.drop p).takeWhile (fun b=>b.toNat != 10)).length+(p-i)=((s.data.toList.drop i).takeWhile (fun b=>b.toNat != 10)).length))
   (fun _ iv=>s.size-(intOf iv).toNat)
  case atStart=>exact⟨i,Nat.le_refl _,by omega,by simp,rfl,rfl,by simp⟩
  case round=>
   obtain⟨p,p1,p2,rfl,rfl,hP⟩:=hrel;by_cases hp:p<s.size
   ·have hDp:=Zh (QYa s p hp)
    cases h10:(((s[p]).toNat:Int)==10)
    ·have h10':(((s[p]).toNat:Int) != 10)=true:=by simp at h10 ⊢;exact h10
     go_wp2;go_round
     case rel=>
      refine⟨p+1,by omega,by omega,by congr 1;omega,rfl,?_⟩;have hn:(s[p].toNat != 10)=true:=by simp at h10 ⊢;omega
      have h1:=hP.o;rw[hDp.o,List.dropWhile_cons,List.takeWhile_cons,if_pos hn,if_pos hn,List.length_cons] at h1;exact⟨h1.1,by omega⟩
     case measure=>simp[intOf];omega
    ·have h10':(((s[p]).toNat:Int) != 10)=false:=by simp at h10 ⊢;exact h10
     have hn:¬(s[p].toNat != 10)=true:=by simp at h10 ⊢;omega
     have h1:=hP.o;rw[hDp.o,List.dropWhile_cons,List.takeWhile_cons,if_neg hn,if_neg hn] at h1;have hpi:i<p:=by
      rcases Nat.lt_or_ge i p with h|h
      ·exact h
      ·have:i=p:=by omega
       subst this;have:=HC.o;simp at h10;omega
     have H1:=Zh h1;clear h1 hP;go_wp2;refine⟨⟨toks,p+1,line+1,1,false,_,rfl,HO.o,hbel.o,hBw,⟨b1,by omega,by omega,by omega,by simp at b3 ⊢;omega⟩,?_⟩,by simp[RMu,frR,intOf];omega⟩;have h2:=H1.o;rw[←hR.o,QSf s i hi HC.o,←h2.1,Qmh (by simp at h10;omega)];rfl
   ·have hps:p=s.size:=by omega
    subst hps;have h1:=hP.o;rw[Qef s s.size (Nat.le_refl _)] at h1;have H1:=Zh h1;clear h1 hP;go_wp2;refine⟨⟨toks,s.size,line,col+(s.size-i),false,_,rfl,HO.o,hbel.o,hBw,⟨b1,by omega,by omega,by omega,by simp at b3 ⊢;omega⟩,?_⟩,by simp[RMu,frR,intOf];omega⟩;have h2:=H1.o;rw[←hR.o,QSf s i hi HC.o,←h2.1,Qef s s.size (Nat.le_refl _)];simp only[List.takeWhile_nil,List.length_nil,Nat.zero_add] at h2;rw[←h2.2];simp only[List.dropWhile_nil];rfl
 ·conv=>arg 2;whnf
  unfold frR;go_wp2_with (at_builtin;refine QL [.int .i64 3,.string ⟨#[]⟩,.int .i64 line,.int .i64 col] rfl _ _ 222 rfl B 232 _ 4 40 Tryz.underlying222 QKe rfl ZO _ _ _ HO.o rfl rfl rfl rfl (by unfold maxLen;omega) ZO hBw ?_;intro g cap w1 hown1 hgrow hg1 hg2;have hb1:=Below.of_grown hgrow HO.o hBw;have hsz:=hb1.size;have HO1:=Zh hown1;have HB1:=Zh (hbel.o.trans hb1);clear hown1 hgrow hb1);go_loop [8,10] (fun cv iv=>∃p:Nat,i≤p∧p≤s.size∧cv=.int .i64 ((col+(p-i):Nat):Int)∧iv=.int .i64 p ∧
    Hid ((s.data.toList.drop p).dropWhile (fun b=>b.toNat != 10)=(s.data.toList.drop i).dropWhile (fun b=>b.toNat != 10)∧((s.data.toList.drop p).takeWhile (fun b=>b.toNat != 10)).length+(p-i)=((s.data.toList.drop i).takeWhile (fun b=>b.toNat != 10)).length))
   (fun _ iv=>s.size-(intOf iv).toNat)
  case atStart=>exact⟨i,Nat.le_refl _,by omega,by simp,rfl,rfl,by simp⟩
  case round=>
   obtain⟨p,p1,p2,rfl,rfl,hP⟩:=hrel;by_cases hp:p<s.size
   ·have hDp:=Zh (QYa s p hp)
    cases h10:(((s[p]).toNat:Int)==10)
    ·have h10':(((s[p]).toNat:Int) != 10)=true:=by simp at h10 ⊢;exact h10
     go_wp2;go_round
     case rel=>
      refine⟨p+1,by omega,by omega,by congr 1;omega,rfl,?_⟩;have hn:(s[p].toNat != 10)=true:=by simp at h10 ⊢;omega
      have h1:=hP.o;rw[hDp.o,List.dropWhile_cons,List.takeWhile_cons,if_pos hn,if_pos hn,List.length_cons] at h1;exact⟨h1.1,by omega⟩
     case measure=>simp[intOf];omega
    ·have h10':(((s[p]).toNat:Int) != 10)=false:=by simp at h10 ⊢;exact h10
     have hn:¬(s[p].toNat != 10)=true:=by simp at h10 ⊢;omega
     have h1:=hP.o;rw[hDp.o,List.dropWhile_cons,List.takeWhile_cons,if_neg hn,if_neg hn] at h1;have hpi:i<p:=by
      rcases Nat.lt_or_ge i p with h|h
      ·exact h
      ·have:i=p:=by omega
       subst this;have:=HC.o;simp at h10;omega
     have H1:=Zh h1;clear h1 hP;go_wp2;refine⟨⟨(toks++[⟨3,[],line,col⟩]),p+1,line+1,1,false,_,rfl,Qid ⟨3,[],line,col⟩ HO1.o,HB1.o,ZO,⟨b1,by omega,by omega,by omega,by simp at b3 ⊢;omega⟩,?_⟩,by simp[RMu,frR,intOf];omega⟩;have h2:=H1.o;rw[←hR.o,QSf s i hi HC.o,←h2.1,Qmh (by simp at h10;omega)];rfl
   ·have hps:p=s.size:=by omega
    subst hps;have h1:=hP.o;rw[Qef s s.size (Nat.le_refl _)] at h1;have H1:=Zh h1;clear h1 hP;go_wp2;refine⟨⟨(toks++[⟨3,[],line,col⟩]),s.size,line,col+(s.size-i),false,_,rfl,Qid ⟨3,[],line,col⟩ HO1.o,HB1.o,ZO,⟨b1,by omega,by omega,by omega,by simp at b3 ⊢;omega⟩,?_⟩,by simp[RMu,frR,intOf];omega⟩;have h2:=H1.o;rw[←hR.o,QSf s i hi HC.o,←h2.1,Qef s s.size (Nat.le_refl _)];simp only[List.takeWhile_nil,List.length_nil,Nat.zero_add] at h2;rw[←h2.2];simp only[List.dropWhile_nil];rfl
theorem Qna (c:Int):Qsb c=(QOa c||QAc c):=by
 unfold Qsb QOa
 cases Qjb c <;> cases QAc c <;> cases (c==95) <;> rfl
theorem Qam (s:ByteArray)(w0:World)(B:Nat)(R:Qub)(w:World)(u:Nat→Value)(toks:List Tok)(i line col:Nat)(op:Bool)(v:Value)(hB:Hid (w0.heap.size=B))(Q:Exit→Act→World→Prop)(hret:∀a w,bodyPost Tryz.prog Tryz.f171 (QGb w0 R) .ret a w→Q .ret a w)(hown:w.ownsRow B 232 4 v toks.length (toks.map Qpa).flatten)(hbel:Hid (Below B w0 w))(hBw:B≤w.heap.size)(hbd:BdR s toks i line col op)(hi:i<s.size)(HC:Hid ((s[i].toNat≠32∧s[i].toNat≠9∧s[i].toNat≠59∧s[i].toNat≠35∧s[i].toNat≠10∧s[i].toNat≠61)∧QOa (s[i].toNat:Int)=false∧QAc (s[i].toNat:Int)=true))(hR:Hid (lex (s.data.toList.drop i) line col op toks=R)):
  QKb.wp Tryz.prog (Exit.then (fun a' w'=>RInv s w0 B R a' w'∧RMu s a' w' < RMu s (frR s v line col op i u) w) Q) (frR s v line col op i u) w:=by
 have b1:=hbd.size;have b2:=hbd.line;have b3:=hbd.toks;have b4:=hbd.col;have hD:=Zh (QYa s i hi);have HO:=Zh hown;have hret':=Zh hret;clear hbd hown hret;have t32:(((s[i]).toNat:Int)==32)=false:=by simp;have:=HC.o;omega
 have t9:(((s[i]).toNat:Int)==9)=false:=by simp;have:=HC.o;omega
 have t10:(((s[i]).toNat:Int)==10)=false:=by simp;have:=HC.o;omega
 have t59:(((s[i]).toNat:Int)==59)=false:=by simp;have:=HC.o;omega
 have t35:(((s[i]).toNat:Int)==35)=false:=by simp;have:=HC.o;omega
 have t61:(((s[i]).toNat:Int)==61)=false:=by simp;have:=HC.o;omega
 have hp1:=HC.o.2.1;have hp2:=HC.o.2.2
 conv=>arg 2;whnf
 unfold frR;go_wp2_with (first|(go_at_call 218;refine(QDa _ _).mono ?_;rintro e w1 ⟨rfl,rfl⟩)|(go_at_call 219;refine(QQa _ _).mono ?_;rintro e w1 ⟨rfl,rfl⟩));go_loop [12] (fun nv=>∃n:Nat,i+n≤s.size∧nv=.int .i64 n∧Hid (n+wlen s (i+n)=wlen s i)) (fun nv=>s.size-i-(intOf nv).toNat)
 case atStart=>exact⟨0,by omega,rfl,by unfold Hid;simp⟩
 case round=>
  obtain⟨n,hn,rfl,hw⟩:=hrel;have hx:((i:Int)+(n:Int)).toNat=i+n:=by omega
  by_cases hlt:i+n<s.size
  ·skip
   cases hl:QOa (s[i+n].toNat:Int)
   ·cases hg:QAc (s[i+n].toNat:Int)
    ·have h0:=Zh (QZk s (i+n) hlt (by rw[Qna,hl,hg];rfl));have hfin:n=wlen s i:=by have h1:=hw.o;have h2:=h0.o;omega
     have hF:=Zh hfin;clear hfin h0 hw;go_wp2_with (first|(go_at_call 218;refine(QDa _ _).mono ?_;rintro e w1 ⟨rfl,rfl⟩)|(go_at_call 219;refine(QQa _ _).mono ?_;rintro e w1 ⟨rfl,rfl⟩))
     try simp only[Exit.then,Exit.inBlock]
     refine hret'.o _ _ (bodyPost_ret (QCb rfl _ _ _) rfl ?_);rw[←hR.o,hD.o,QAk (c:=s[i]) (by show Qsb _=true;rw[Qna,hp1,hp2];rfl) hp2];exact⟨_,rfl,Qg.nil,by rw[hB.o];exact hbel.o⟩
    ·have h0:=Zh (Qfe s (i+n) hlt (by rw[Qna,hl,hg];rfl));go_wp2_with (first|(go_at_call 218;refine(QDa _ _).mono ?_;rintro e w1 ⟨rfl,rfl⟩)|(go_at_call 219;refine(QQa _ _).mono ?_;rintro e w1 ⟨rfl,rfl⟩));go_round
     case rel=>exact⟨n+1,by omega,by go_num,by have h1:=hw.o;have h2:=h0.o;unfold Hid;rw[show i+(n+1)=i+n+1 from by omega];omega⟩
     case measure=>simp[intOf];omega
   ·have h0:=Zh (Qfe s (i+n) hlt (by rw[Qna,hl];rfl));go_wp2_with (first|(go_at_call 218;refine(QDa _ _).mono ?_;rintro e w1 ⟨rfl,rfl⟩)|(go_at_call 219;refine(QQa _ _).mono ?_;rintro e w1 ⟨rfl,rfl⟩));go_round
    case rel=>exact⟨n+1,by omega,by go_num,by have h1:=hw.o;have h2:=h0.o;unfold Hid;rw[show i+(n+1)=i+n+1 from by omega];omega⟩
    case measure=>simp[intOf];omega
  ·have h0:=Zh (QNi s (i+n) ZO);have hfin:n=wlen s i:=by have h1:=hw.o;have h2:=h0.o;omega
   have hF:=Zh hfin;clear hfin h0 hw;go_wp2_with (first|(go_at_call 218;refine(QDa _ _).mono ?_;rintro e w1 ⟨rfl,rfl⟩)|(go_at_call 219;refine(QQa _ _).mono ?_;rintro e w1 ⟨rfl,rfl⟩))
   try simp only[Exit.then,Exit.inBlock]
   refine hret'.o _ _ (bodyPost_ret (QCb rfl _ _ _) rfl ?_);rw[←hR.o,hD.o,QAk (c:=s[i]) (by show Qsb _=true;rw[Qna,hp1,hp2];rfl) hp2];exact⟨_,rfl,Qg.nil,by rw[hB.o];exact hbel.o⟩
theorem Qel (s:ByteArray)(w0:World)(B:Nat)(R:Qub)(w:World)(u:Nat→Value)(toks:List Tok)(i line col:Nat)(op:Bool)(v:Value)(hB:Hid (w0.heap.size=B))(Q:Exit→Act→World→Prop)(hret:∀a w,bodyPost Tryz.prog Tryz.f171 (QGb w0 R) .ret a w→Q .ret a w)(hown:w.ownsRow B 232 4 v toks.length (toks.map Qpa).flatten)(hbel:Hid (Below B w0 w))(hBw:B≤w.heap.size)(hbd:BdR s toks i line col op)(hi:i<s.size)(HC:Hid ((s[i].toNat≠32∧s[i].toNat≠9∧s[i].toNat≠59∧s[i].toNat≠35∧s[i].toNat≠10∧s[i].toNat≠61)∧QOa (s[i].toNat:Int)=true∧QAc (s[i].toNat:Int)=false))(hR:Hid (lex (s.data.toList.drop i) line col op toks=R)):
  QKb.wp Tryz.prog (Exit.then (fun a' w'=>RInv s w0 B R a' w'∧RMu s a' w' < RMu s (frR s v line col op i u) w) Q) (frR s v line col op i u) w:=by
 have b1:=hbd.size;have b2:=hbd.line;have b3:=hbd.toks;have b4:=hbd.col;have hD:=Zh (QYa s i hi);have HO:=Zh hown;have hret':=Zh hret;clear hbd hown hret;have t32:(((s[i]).toNat:Int)==32)=false:=by simp;have:=HC.o;omega
 have t9:(((s[i]).toNat:Int)==9)=false:=by simp;have:=HC.o;omega
 have t10:(((s[i]).toNat:Int)==10)=false:=by simp;have:=HC.o;omega
 have t59:(((s[i]).toNat:Int)==59)=false:=by simp;have:=HC.o;omega
 have t35:(((s[i]).toNat:Int)==35)=false:=by simp;have:=HC.o;omega
 have t61:(((s[i]).toNat:Int)==61)=false:=by simp;have:=HC.o;omega
 have hp1:=HC.o.2.1;have hp2:=HC.o.2.2
 conv=>arg 2;whnf
 unfold frR;go_wp2_with (first|(go_at_call 218;refine(QDa _ _).mono ?_;rintro e w1 ⟨rfl,rfl⟩)|(go_at_call 219;refine(QQa _ _).mono ?_;rintro e w1 ⟨rfl,rfl⟩));go_loop [12] (fun nv=>∃n:Nat,i+n≤s.size∧nv=.int .i64 n∧Hid (n+wlen s (i+n)=wlen s i)) (fun nv=>s.size-i-(intOf nv).toNat)
 case atStart=>exact⟨0,by omega,rfl,by unfold Hid;simp⟩
 case round=>
  obtain⟨n,hn,rfl,hw⟩:=hrel;have hx:((i:Int)+(n:Int)).toNat=i+n:=by omega
  by_cases hlt:i+n<s.size
  ·skip
   cases hl:QOa (s[i+n].toNat:Int)
   ·cases hg:QAc (s[i+n].toNat:Int)
    ·have h0:=Zh (QZk s (i+n) hlt (by rw[Qna,hl,hg];rfl));have hfin:n=wlen s i:=by have h1:=hw.o;have h2:=h0.o;omega
     have hF:=Zh hfin;clear hfin h0 hw;by_cases hlong:n≤16
     ·have q1:(i:Int)≤(i:Int)+(n:Int):=by omega
      have q2:(i:Int)+(n:Int)≤(s.size:Int):=by omega
      go_wp2_with (first|(at_builtin;refine QL [.int .i64 1,.string (s.extract i (i+n)),.int .i64 line,.int .i64 col] rfl _ _ 222 rfl B 232 _ 4 40 Tryz.underlying222 QKe rfl ZO _ _ _ HO.o rfl rfl rfl rfl (by unfold maxLen;omega) ZO hBw ?_;intro g cap w1 hown1 hgrow hg1 hg2;have hb1:=Below.of_grown hgrow HO.o hBw;have hsz:=hb1.size;have HO1:=Zh hown1;have HB1:=Zh (hbel.o.trans hb1);clear hown1 hgrow hb1)|(first|(go_at_call 218;refine(QDa _ _).mono ?_;rintro e w1 ⟨rfl,rfl⟩)|(go_at_call 219;refine(QQa _ _).mono ?_;rintro e w1 ⟨rfl,rfl⟩)));have hl2:¬16<((s[i]::s.data.toList.drop (i+1)).takeWhile Qha).length:=by
       rw[←hD.o];have:=hF.o;unfold wlen at this;omega
      have hcol:((List.takeWhile Qha (s[i]::List.drop (i+1) s.data.toList)).length:Int)=n:=by
       rw[←hD.o];have:=hF.o;unfold wlen at this;omega
      have htxt:(s.extract i (i+n)).data.toList=List.takeWhile Qha (s[i]::List.drop (i+1) s.data.toList):=by
       rw[←hD.o,←Qhe,show((s.data.toList.drop i).takeWhile Qha).length=n from hF.o.symm,Lib.extract_data,Nat.add_sub_cancel_left]
      have hdrop:List.dropWhile Qha (s[i]::List.drop (i+1) s.data.toList)=List.drop (i+n) s.data.toList:=by
       rw[←hD.o,←Qwe,show((s.data.toList.drop i).takeWhile Qha).length=n from hF.o.symm,List.drop_drop]
      have hn1:1≤n:=by
       have h2:=Qfe s i hi (by rw[Qna,hp1];rfl);have h3:=hF.o;omega
      refine⟨⟨toks++[⟨1,(s.extract i (i+n)).data.toList,line,col⟩],i+n,line,col+n,true,_,rfl,Qid ⟨1,(s.extract i (i+n)).data.toList,line,col⟩ HO1.o,HB1.o,ZO,⟨b1,by omega,by omega,by omega,by simp at b3 ⊢;omega⟩,?_⟩,by simp[RMu,frR,intOf];omega⟩;rw[←hR.o,hD.o,Qym (c:=s[i]) (by show Qsb _=true;rw[Qna,hp1];rfl) hp2 hl2,hcol,hdrop,htxt];rfl
     ·go_wp2_with (first|(go_at_call 218;refine(QDa _ _).mono ?_;rintro e w1 ⟨rfl,rfl⟩)|(go_at_call 219;refine(QQa _ _).mono ?_;rintro e w1 ⟨rfl,rfl⟩));have hl2:16<((s[i]::s.data.toList.drop (i+1)).takeWhile Qha).length:=by
       rw[←hD.o];have:=hF.o;unfold wlen at this;omega
      try simp only[Exit.then,Exit.inBlock]
      refine hret'.o _ _ (bodyPost_ret (QCb rfl _ _ _) rfl ?_);rw[←hR.o,hD.o,Qzm (c:=s[i]) (by show Qsb _=true;rw[Qna,hp1];rfl) hp2 hl2];exact⟨_,rfl,Qg.nil,by rw[hB.o];exact hbel.o⟩
    ·have h0:=Zh (Qfe s (i+n) hlt (by rw[Qna,hl,hg];rfl));go_wp2_with (first|(go_at_call 218;refine(QDa _ _).mono ?_;rintro e w1 ⟨rfl,rfl⟩)|(go_at_call 219;refine(QQa _ _).mono ?_;rintro e w1 ⟨rfl,rfl⟩));go_round
     case rel=>exact⟨n+1,by omega,by go_num,by have h1:=hw.o;have h2:=h0.o;unfold Hid;rw[show i+(n+1)=i+n+1 from by omega];omega⟩
     case measure=>simp[intOf];omega
   ·have h0:=Zh (Qfe s (i+n) hlt (by rw[Qna,hl];rfl));go_wp2_with (first|(go_at_call 218;refine(QDa _ _).mono ?_;rintro e w1 ⟨rfl,rfl⟩)|(go_at_call 219;refine(QQa _ _).mono ?_;rintro e w1 ⟨rfl,rfl⟩));go_round
    case rel=>exact⟨n+1,by omega,by go_num,by have h1:=hw.o;have h2:=h0.o;unfold Hid;rw[show i+(n+1)=i+n+1 from by omega];omega⟩
    case measure=>simp[intOf];omega
  ·have h0:=Zh (QNi s (i+n) ZO);have hfin:n=wlen s i:=by have h1:=hw.o;have h2:=h0.o;omega
   have hF:=Zh hfin;clear hfin h0 hw;by_cases hlong:n≤16
   ·have q1:(i:Int)≤(i:Int)+(n:Int):=by omega
    have q2:(i:Int)+(n:Int)≤(s.size:Int):=by omega
    go_wp2_with (first|(at_builtin;refine QL [.int .i64 1,.string (s.extract i (i+n)),.int .i64 line,.int .i64 col] rfl _ _ 222 rfl B 232 _ 4 40 Tryz.underlying222 QKe rfl ZO _ _ _ HO.o rfl rfl rfl rfl (by unfold maxLen;omega) ZO hBw ?_;intro g cap w1 hown1 hgrow hg1 hg2;have hb1:=Below.of_grown hgrow HO.o hBw;have hsz:=hb1.size;have HO1:=Zh hown1;have HB1:=Zh (hbel.o.trans hb1);clear hown1 hgrow hb1)|(first|(go_at_call 218;refine(QDa _ _).mono ?_;rintro e w1 ⟨rfl,rfl⟩)|(go_at_call 219;refine(QQa _ _).mono ?_;rintro e w1 ⟨rfl,rfl⟩)));have hl2:¬16<((s[i]::s.data.toList.drop (i+1)).takeWhile Qha).length:=by
     rw[←hD.o];have:=hF.o;unfold wlen at this;omega
    have hcol:((List.takeWhile Qha (s[i]::List.drop (i+1) s.data.toList)).length:Int)=n:=by
     rw[←hD.o];have:=hF.o;unfold wlen at this;omega
    have htxt:(s.extract i (i+n)).data.toList=List.takeWhile Qha (s[i]::List.drop (i+1) s.data.toList):=by
     rw[←hD.o,←Qhe,show((s.data.toList.drop i).takeWhile Qha).length=n from hF.o.symm,Lib.extract_data,Nat.add_sub_cancel_left]
    have hdrop:List.dropWhile Qha (s[i]::List.drop (i+1) s.data.toList)=List.drop (i+n) s.data.toList:=by
     rw[←hD.o,←Qwe,show((s.data.toList.drop i).takeWhile Qha).length=n from hF.o.symm,List.drop_drop]
    have hn1:1≤n:=by
     have h2:=Qfe s i hi (by rw[Qna,hp1];rfl);have h3:=hF.o;omega
    refine⟨⟨toks++[⟨1,(s.extract i (i+n)).data.toList,line,col⟩],i+n,line,col+n,true,_,rfl,Qid ⟨1,(s.extract i (i+n)).data.toList,line,col⟩ HO1.o,HB1.o,ZO,⟨b1,by omega,by omega,by omega,by simp at b3 ⊢;omega⟩,?_⟩,by simp[RMu,frR,intOf];omega⟩;rw[←hR.o,hD.o,Qym (c:=s[i]) (by show Qsb _=true;rw[Qna,hp1];rfl) hp2 hl2,hcol,hdrop,htxt];rfl
   ·go_wp2_with (first|(go_at_call 218;refine(QDa _ _).mono ?_;rintro e w1 ⟨rfl,rfl⟩)|(go_at_call 219;refine(QQa _ _).mono ?_;rintro e w1 ⟨rfl,rfl⟩));have hl2:16<((s[i]::s.data.toList.drop (i+1)).takeWhile Qha).length:=by
     rw[←hD.o];have:=hF.o;unfold wlen at this;omega
    try simp only[Exit.then,Exit.inBlock]
    refine hret'.o _ _ (bodyPost_ret (QCb rfl _ _ _) rfl ?_);rw[←hR.o,hD.o,Qzm (c:=s[i]) (by show Qsb _=true;rw[Qna,hp1];rfl) hp2 hl2];exact⟨_,rfl,Qg.nil,by rw[hB.o];exact hbel.o⟩
end
section
open Go.RowKit
variable [Base]
theorem QUn (s:ByteArray)(w0:World)(B:Nat)(R:Qub)(w:World)(u:Nat→Value)(toks:List Tok)(line col:Nat)(op:Bool)(v:Value)(Q:Exit→Act→World→Prop)(hexit:∀a w,Qau s w0 B R a w→Q (.exit 0) a w)(hown:w.ownsRow B 232 4 v toks.length (toks.map Qpa).flatten)(hbel:Hid (Below B w0 w))(hBw:B≤w.heap.size)(hbd:BdR s toks s.size line col op)(hR:Hid (lex [] line col op toks=R)):
  QKb.wp Tryz.prog (Exit.then (fun a' w'=>RInv s w0 B R a' w'∧RMu s a' w' < RMu s (frR s v line col op s.size u) w) Q) (frR s v line col op s.size u) w:=by
 have b1:=hbd.size;have HO:=Zh hown;have HBD:=Zh hbd;have hexit':=Zh hexit;clear hbd hown hexit
 conv=>arg 2;whnf
 unfold frR;go_wp2;exact hexit'.o _ _ ⟨toks,line,col,op,v,rfl,HO.o,hbel.o,hBw,HBD.o,hR.o⟩
theorem QWl (s:ByteArray)(w0:World)(B:Nat)(R:Qub)(hB:Hid (w0.heap.size=B))(Q:Exit→Act→World→Prop)(hret:∀a w,bodyPost Tryz.prog Tryz.f171 (QGb w0 R) .ret a w→Q .ret a w)(hexit:∀a w,Qau s w0 B R a w→Q (.exit 0) a w)(a:Act)(w:World)(h:RInv s w0 B R a w):QKb.wp Tryz.prog (Exit.then (fun a' w'=>RInv s w0 B R a' w'∧RMu s a' w' < RMu s a w) Q) a w:=by
 obtain⟨toks,i,line,col,op,v,ha,hown,hbel,hBw,hbd,hR⟩:=h;rw[ha];generalize Qqp a=u;by_cases hi:i<s.size
 ·by_cases h1:s[i].toNat=32
  ·exact QUl s w0 B R w u toks i line col op v hB Q hret hown hbel hBw hbd hi h1 hR
  by_cases h2:s[i].toNat=9
  ·exact Qvq s w0 B R w u toks i line col op v hB Q hret hown hbel hBw hbd hi h2 hR
  by_cases h3:s[i].toNat=59
  ·exact QSn s w0 B R w u toks i line col op v hB Q hret hown hbel hBw hbd hi h3 hR
  by_cases h4:s[i].toNat=35
  ·exact QVn s w0 B R w u toks i line col op v hB Q hret hown hbel hBw hbd hi h4 hR
  by_cases h5:s[i].toNat=10
  ·exact QTn s w0 B R w u toks i line col op v hB Q hret hown hbel hBw hbd hi h5 hR
  by_cases h6:s[i].toNat=61
  ·exact QZl s w0 B R w u toks i line col op v hB Q hret hown hbel hBw hbd hi h6 hR
  cases hp:Qsb (s[i].toNat:Int)
  ·exact QXl s w0 B R w u toks i line col op v hB Q hret hown hbel hBw hbd hi ⟨⟨h1,h2,h3,h4,h5,h6⟩,hp⟩ hR
  ·rw[Qna] at hp
   cases hd:QAc (s[i].toNat:Int)
   ·exact Qel s w0 B R w u toks i line col op v hB Q hret hown hbel hBw hbd hi ⟨⟨h1,h2,h3,h4,h5,h6⟩,by simpa [hd] using hp,hd⟩ hR
   ·refine Qam s w0 B R w u toks i line col op v hB Q hret hown hbel hBw hbd hi ⟨⟨h1,h2,h3,h4,h5,h6⟩,?_,hd⟩ hR;unfold QAc at hd;unfold QOa Qjb;simp at hd ⊢;omega
 ·have hi2:i=s.size:=by have:=hbd.at_;omega
  subst hi2;exact QUn s w0 B R w u toks line col op v Q hexit hown hbel hBw hbd (by rw[Qef s s.size (Nat.le_refl _)] at hR;exact hR)
theorem Qwq (s:ByteArray)(w:World)(hs:4096<s.size):
  Calls Tryz.prog 171 #[.string s] w (QGb w ⟨[],0,0,7⟩):=by
 go_enter Tryz.func171,Tryz.ntmps171;go_wp2;refine bodyPost_ret (QCb rfl _ _ _) rfl ?_;exact⟨_,rfl,Qg.nil,Below.refl _ _⟩
theorem QVl (s:ByteArray)(w:World)(hs:s.size≤4096):
  Calls Tryz.prog 171 #[.string s] w (QGb w (lex s.data.toList 1 1 false [])):=by
 obtain⟨R,hR⟩:∃R,R=lex s.data.toList 1 1 false []:=⟨_,rfl⟩;rw[←hR];obtain⟨B,hB⟩:=Ze w.heap.size;have HR:=Zh hR;have HB:=Zh hB;clear hR hB;go_enter Tryz.func171,Tryz.ntmps171;go_wp2;rename_i K hK;refine wp_loop (RInv s w B R) (RMu s) ?_ ?_
 ·exact⟨[],0,1,1,false,_,rfl,World.ownsRow_nil _ _ _ _,Below.refl _ _,by rw[HB.o];exact Nat.le_refl _,⟨hs,by omega,by omega,by omega,by simp⟩,HR.o.symm⟩
 ·intro a' w' hI;refine QWl s w B R HB _ ?_ ?_ a' w' hI
  ·intro a w h;exact h
  ·rintro a w1 ⟨toks,line,col,op,v,ha,hown,hbel,hBw,hbd,hl⟩;rw[ha];generalize Qqp a=u;have b1:=hbd.size;have b2:=hbd.toks;have HO:=Zh hown;have HBl:=Zh hbel;have HL:=Zh hl;clear hown hbel hl hbd hI;simp only[Exit.inBlock,Exit.then,if_true];refine hK _ _ ?_;unfold frR
   cases op
   ·go_wp2;refine bodyPost_ret (QCb rfl _ _ _) rfl ?_;rw[←HL.o,QHp];exact⟨_,rfl,Qhk HO.o,by rw[HB.o];exact HBl.o⟩
   ·go_wp2_with (at_builtin;refine QL [.int .i64 3,.string ⟨#[]⟩,.int .i64 line,.int .i64 col] rfl _ _ 222 rfl B 232 _ 4 40 Tryz.underlying222 QKe rfl ZO _ _ _ HO.o rfl rfl rfl rfl (by unfold maxLen;omega) ZO hBw ?_;intro g cap w2 hown1 hgrow hg1 hg2;have hb1:=Below.of_grown hgrow HO.o hBw;have hsz:=hb1.size;have HO1:=Zh hown1;have HB1:=Zh (HBl.o.trans hb1);clear hown1 hgrow hb1);refine bodyPost_ret (QCb rfl _ _ _) rfl ?_;rw[←HL.o,QHp];exact⟨_,rfl,Qhk (Qid ⟨3,[],line,col⟩ HO1.o),by rw[HB.o];exact HB1.o⟩
theorem Qxq (s:ByteArray)(w:World):Calls Tryz.prog 171 #[.string s] w (QGb w (Qhd s.data.toList)):=by
 have hl:s.data.toList.length=s.size:=by simp
 unfold Qhd;rw[hl]
 split
 ·rename_i h;exact Qwq s w h
 ·rename_i h;exact QVl s w ZO
end
section
namespace R
open Go.RowKit
variable [Base]
theorem QYl (s:ByteArray)(w:World)(toks:List Tok)(n:Nat)(line col err:Int)(h:Qhd s.data.toList=⟨toks,line,col,err⟩)(hn:toks.length=n):
  Calls Tryz.prog 171 #[.string s] w (Qet w toks n line col err):=by
 refine(Qxq s w).mono fun e w' hp=>?_
 have h1:=Qsq hp;rw[h] at h1;rw[←hn];exact h1
theorem parse_bad {w:World}(s:ByteArray){line col err:Int}{toks:List Tok}(h:Qhd s.data.toList=⟨toks,line,col,err⟩)(he:err≠0):
  Calls Tryz.prog 125 #[.string s] w (Qip w ⟨[],line,col,err⟩):=by
 have HS:=Zh h;have hne:(err != 0)=true:=by simpa using he
 clear h he;go_enter Tryz.func125,Tryz.ntmps125;have ba:=Zh ((Below.refl w.heap.size w).alloc (Nat.le_refl _) (.cells #[.slice none 0 0] 25));have ha:Hid ((w.alloc (.cells #[.slice none 0 0] 25)).heap[w.heap.size]? = some (.cells #[.slice none 0 0] 25 (0,0))):=heap_alloc_new _ _;go_wp2_with fail;refine(QYl s _ toks toks.length line col err HS.o rfl).mono ?_;rintro e w1 ⟨a,c,rfl,ht,hb⟩;have hr:=Zh (Below.blk hb.o ha.o);have hbb:=Zh (ba.o.trans (hb.o.mono ZS));have c0:=(Qd hr.o).1 0;have cf:=(Qd hr.o).2;simp at c0;clear ht hb;go_wp2;have ⟨gc,_⟩:=Qd (Qfj hr.o (.slice none 0 0));refine bodyPost_ret (v:=.tuple #[.agg #[.slice none 0 0],.int .i64 line,.int .i64 col,.int .i64 err]) ?_ rfl ?_
 ·simp[results,Tryz.results125,go_sem,gc]
 exact⟨_,rfl,QLe _,hbb.o.setCell (Nat.le_refl _) _⟩
def PEx (B bp R bb:Nat)(T:List Tok)(RM:List Qo×PS)(W w:World):Prop:=
 ∃v n xs,LpL 25 89 2 B bp R bb (.cells #[.slice none 0 0] 25 (0,0)) [] T W RM.2 w v n xs∧(RM.2.err=0→Qhf Qab w xs RM.1)
theorem parse_good {B:Nat}{w:World}(kw:KwIn B w)(hB:B≤w.heap.size)(s:ByteArray){T:List Tok}(h:Qhd s.data.toList=⟨T,0,0,0⟩):
  Calls Tryz.prog 125 #[.string s] w (Qip w (Qug s.data.toList)):=by
 have HS:=Zh h;have hT:=Qgj s.data.toList;rw[h] at hT;dsimp only at hT;clear h;go_enter Tryz.func125,Tryz.ntmps125;have ba:=Zh ((Below.refl w.heap.size w).alloc (Nat.le_refl _) (.cells #[.slice none 0 0] 25));have ha:Hid ((w.alloc (.cells #[.slice none 0 0] 25)).heap[w.heap.size]? = some (.cells #[.slice none 0 0] 25 (0,0))):=heap_alloc_new _ _;go_wp2_with fail;refine(QYl s _ T T.length 0 0 0 HS.o rfl).mono ?_;rintro e w1 ⟨ta,tc,rfl,ht,hb⟩;have hr:=Zh (Below.blk hb.o ha.o);have hbb:=Zh (ba.o.trans (hb.o.mono ZS));have hrz:=Qb hr.o;have O:Hid (PSt B w1.heap.size T ⟨0,0⟩ (w1.alloc (.cells #[.slice ta T.length tc,.int .i64 0,.int .i64 0] 227))):=⟨kw.keep (fun k hk=>(Below.heap_alloc _ _ k ZO).trans (hbb.o.block k ZO)),by omega,⟨ta,tc,heap_alloc_new _ _,Qg.same ht.o Qf.alloc⟩,Nat.zero_le _,by decide⟩;have HT0:=Zh (Qg.same ht.o (Qf.alloc (o:=.cells #[.slice ta T.length tc,.int .i64 0,.int .i64 0] 227)));have HTY0:=Zh (Qv (heap_alloc_new w1 (.cells #[.slice ta T.length tc,.int .i64 0,.int .i64 0] 227)) (by show Base.b≤w1.heap.size;have:=kw.bs;omega));clear ht hb ba ha;obtain⟨W,hW⟩:=Ze (w1.alloc (.cells #[.slice ta T.length tc,.int .i64 0,.int .i64 0] 227));have HW:=Zh hW;have hWz:W.heap.size=w1.heap.size+1:=by rw[←hW];simp
 have L4:Hid (LpL 25 89 2 B w1.heap.size w.heap.size W.heap.size (.cells #[.slice none 0 0] 25 (0,0)) [] T W ⟨0,0⟩ (W.alloc (.cells #[.slice none 0 0] 25)) (.slice none 0 0) 0 []):=⟨by rw[←hW];exact O.o.alloc _,(But.refl _ _).alloc _,by omega,by omega,by omega,Nat.le_refl _,Qfa _ (by rw[←hW];exact Qfa _ hr.o),heap_alloc_new W _,World.ownsRow_nil _ _ _ _⟩;have hWb:Hid (Below w.heap.size w W):=by rw[←hW];exact hbb.o.alloc ZO _
 have HTK:Hid (QFb W (.slice ta T.length tc) T):=by rw[←hW];exact HT0.o
 have HTY:Hid (tyAt W w1.heap.size=some 227):=by rw[←hW];exact HTY0.o
 clear hW O hr hbb HT0 HTY0;go_wp2_with fail;rw[show w1.alloc (.cells #[.slice ta T.length tc,.int .i64 0,.int .i64 0] 227)=W from HW.o];obtain⟨bb,hbb⟩:=Ze W.heap.size;rw[hbb] at L4 hWz;rw[show w1.heap.size+1=bb from by omega];have HBB:=Zh hbb;clear hbb;obtain⟨bp,hbp⟩:=Ze w1.heap.size;rw[hbp] at L4 hWz hrz HTY ⊢;clear hbp;have hlt1:bp<bb:=by omega
 have HWS:=Zh hWz;clear hWz;refine(QDf L4.o.p Qrb).mono ?_;rintro e v5 ⟨rfl,hp,hb⟩;have L5:=Zh (L4.o.call hp hb);clear hp hb L4;obtain⟨s5,hs5⟩:=Ze ((if isW T Qrb ⟨0,0⟩=true then (⟨0,0⟩:PS) else PS.fail ⟨0,0⟩ 4));have HS5:=Zh hs5;obtain⟨RM,hRM⟩:=Ze (QSb (isW T Qrb) (QHc T) 8 [] s5);have HRM:=Zh hRM;clear hRM;have HPT:=Zh (QEq HS.o (R:=RM) (by rw[HS5.o];exact HRM.o));clear hs5;go_upto_if 30 with fail
 go_cut [] from 28 to 32 (fun wx=>Hid (LpIn Qab (isW T Qrb) (QHc T) 25 89 2 B bp w.heap.size bb 8 (.cells #[.slice none 0 0] 25 (0,0)) [] T RM W 10 wx))
 case first=>
  have hs5:=HS5.o;clear HS5
  cases hb0:isW T Qrb ⟨0,0⟩
  ·rw[hb0,if_neg ZD] at hs5;clear hb0;go_wp2_with fail;refine(Qtb L5.o.p 4 ZD).mono ?_;rintro e v6 ⟨rfl,hp,hb⟩;have L6:=Zh (L5.o.call hp hb);clear hp hb;rw[hs5] at L6;clear hs5;have I0:Hid (LpIn Qab (isW T Qrb) (QHc T) 25 89 2 B bp w.heap.size bb 8 (.cells #[.slice none 0 0] 25 (0,0)) [] T RM W 10 v6):=⟨s5,.slice none 0 0,0,[],L6.o,rfl,Md.start HRM.o ⟨[],rfl,trivial⟩⟩;clear L6;go_wp2;go_meet
   case rel=>exact I0
  ·rw[hb0,if_pos rfl] at hs5;clear hb0;rw[hs5] at L5;clear hs5;have I0:Hid (LpIn Qab (isW T Qrb) (QHc T) 25 89 2 B bp w.heap.size bb 8 (.cells #[.slice none 0 0] 25 (0,0)) [] T RM W 10 v5):=⟨s5,.slice none 0 0,0,[],L5.o,rfl,Md.start HRM.o ⟨[],rfl,trivial⟩⟩;clear L5;go_wp2;go_meet
   case rel=>exact I0
 case rest=>
  clear L5 HS5;go_upto_block 0 with fail
  go_cut [] from 33 to 47 (fun wx=>Hid (PEx B bp w.heap.size bb T RM W wx))
  case first=>
   have I0:=hcut;clear hcut;go_wp2;go_loopg [] 10 (fun g wr=>Hid (LpIn Qab (isW T Qrb) (QHc T) 25 89 2 B bp w.heap.size bb 8 (.cells #[.slice none 0 0] 25 (0,0)) [] T RM W g wr))
   case atStart=>exact I0
   case round=>
    obtain⟨s6,v,n,xs,l6,hgn,md⟩:=hrel.o;obtain⟨va,vc,rfl⟩:=Qkd l6.own;have L6:=Zh l6;have MD:=Zh md;clear l6 md hrel I0;go_wp2_with fail;refine(QDf L6.o.p Qrb).mono ?_;rintro e v7 ⟨rfl,hp,hb⟩;have L7:=Zh (L6.o.call hp hb);have K7:=Zh (L6.o.same (ts:=[9,94,92]) ZD hb);clear hp hb
    cases hbg:(isW T Qrb) s6
    ·have HBG:=Zh hbg;clear hbg;obtain⟨hr2,hok⟩:=Hd.done (show Hd _ _ RM 8 n s6 _ false from .inl ⟨HBG.o.symm,MD.o⟩);have HR2:=Zh hr2;have HOK:=Zh hok;clear hr2 hok MD;have EX:Hid (PEx B bp w.heap.size bb T RM W v7):=⟨_,_,_,by rw[HR2.o];exact L7.o,fun h0=>(HOK.o (by rw[←HR2.o];exact h0)).mono (QEe K7.o)⟩;clear L7 K7 HOK HR2 hT;go_wp2;go_meet
     case rel=>exact EX
    ·have HBG:=Zh hbg;have hle:=Md.le (fun _ h=>Qpc h _) MD.o hbg;clear hbg;have c1:=(Qd L7.o.loc).1 0;have cf:=(Qd L7.o.loc).2;have hlth:=L7.o.lth;simp at c1;by_cases hfull:(n:Int)=8
     ·obtain rfl:n=8:=by omega
      have ⟨hr2,hne⟩:=Md.full (fun _ h=>Qpc h _) MD.o HBG.o;have HR2:=Zh hr2;have HNE:=Zh hne;clear hr2 hne hfull MD;go_wp2_with fail;refine(Qtb L7.o.p 7 ZD).mono ?_;rintro e v8 ⟨rfl,hp,hb⟩;have L8:=Zh (L7.o.call hp hb);clear hp hb c1 cf;have EX:Hid (PEx B bp w.heap.size bb T RM W v8):=⟨_,_,_,by rw[HR2.o];exact L8.o,fun h0=>absurd (by rw[←HR2.o];exact h0) HNE.o⟩;clear L7 K7 L8 HR2 hT;go_wp2;go_meet
      case rel=>exact EX
     ·have hnf:((n:Int)==8)=false:=by rw[beq_eq_false_iff_ne];exact hfull
      have hroom:Qsd 8 n s6=s6:=by unfold Qsd;exact if_neg ZO
      have HRM2:=Zh hroom;clear hroom;have hn32:n<8:=by omega
      clear hfull;go_wp2_with fail;refine QK (S:=fun w'=>w'.cell? ⟨bb,0,none⟩=some (.slice va n vc)) (st:=7) ZK ?_;refine Zp 0 ?z1 c1 ?rz1 ?sz1
      case rz1=>intro w hS;go_simp;rfl
      case sz1=>
      refine Zp 1 ?z2 c1 ?rz2 ?sz2
      case rz2=>intro w hS;go_simp;rfl
      case sz2=>
      refine Zp 2 ?z3 c1 ?rz3 ?sz3
      case rz3=>intro w hS;go_simp;rfl
      case sz3=>
      refine Zt 3 ?_;refine Ql rfl ?_;go_wp2_with fail;refine(Qql (L7.o.drewN 1).p hT).mono ?_;rintro e v8 ⟨bv,rfl,hu,hp,hb,hc⟩;obtain⟨bn,hbn⟩:=Ze (Qhc T Qrb s6);rw[hbn] at hc ⊢;clear hbn;have hb:=But.undrew hb;have L8:=Zh (L7.o.call hp hb);have K8:=Zh (K7.o.trans (L7.o.same (ts:=[9,94,92]) ZD hb));have HC:=Zh hc;have HU:=Zh (show List.all [sv bn,bv] Value.oneCell'=true by simp only[List.all_cons,List.all_nil,hu];rfl);clear c1 cf hp hb hc hu;have c1:=(Qd L8.o.loc).1 0;have cf:=(Qd L8.o.loc).2;simp at c1;have hl8:=L8.o.lth;go_wp2;refine⟨fun _=>c1,?_⟩;refine Zt 4 ?_;refine Ql rfl ?_;have c1a:=(((Below.refl v8.heap.size v8).alloc (Nat.le_refl _) (.cells #[sv bn,bv] 89)).cell (p:=⟨bb,0,none⟩) hl8).trans c1;go_wp2;refine⟨fun _=>c1a,?_⟩;refine Zt 5 ?_;refine Ql rfl ?_;refine Qcb [sv bn,bv] rfl _ _ 23 rfl (bb+1) 89 _ 2 40 Tryz.underlying23 Qvs rfl ZO _ n xs L8.o.own rfl _ rfl ZS rfl HU.o (by unfold maxLen;omega) ZO ZO ?_;intro g cap w9 hown1 hg1 hg2 hg3;have c1b:=(Qd (L8.o.cell1 hg1)).1 0;have cfb:=(Qd (L8.o.cell1 hg1)).2;simp at c1b;have hl9:=Qb (L8.o.cell1 hg1);have L9:=Zh (L8.o.push hown1 hg1 ZD ZD 0 rfl);have K9:=Zh (L8.o.pushSame (ts:=[9,94,92]) ZD ZD hg1 0 (.slice (some ⟨g,0,none⟩) (n+1) cap));clear hown1 hg1 c1 cf c1a;have c1:=c1b;have cf:=cfb;clear c1b cfb;go_wp2;refine⟨fun _=>c1,?_⟩;refine Zp 6 ?z4 c1 ?rz4 ?sz4
      case rz4=>intro w hS;go_simp;rfl
      case sz4=>
      refine Zt 7 ?_;refine Ql rfl ?_;go_wp2;refine⟨fun h=>absurd rfl h,?_⟩;refine Qu ZK ?_ _;clear c1 cf;go_wp2;go_roundg (gk-1)
      case measure=>omega
      case rel=>
       refine⟨_,_,n+1,_,L9.o,by omega,?_⟩;have st:=Hd.step (OK':=Qhf Qab (w9.setCell ⟨bb,0,none⟩ (.slice (some ⟨g,0,none⟩) (n+1) cap)) (xs++[sv bn,bv])) (QIt T) (fun _ h=>Qpc h _) ZD (show Hd _ _ RM 8 n s6 _ true from .inl ⟨HBG.o.symm,MD.o⟩) (fun acc hok hb hr h5=>?_)
       ·rw[HRM2.o] at st;exact st
       ·exact(hok.mono (QEe (K8.o.trans K9.o))).snoc (QEe K9.o _ _ (HC.o h5))
  case rest=>
   obtain⟨v,n,xs,l6,hok⟩:=hcut.o;obtain⟨va,vc,rfl⟩:=Qkd l6.own;obtain⟨s6,hr2⟩:=Ze RM.2;rw[hr2] at l6 hok;have HR2:=Zh hr2;have HOK:=Zh hok;have L6:=Zh l6;clear l6 hok hr2 hcut;have hle:=L6.o.p.le;have hTK:=Zh (Qg.same HTK.o (Qf.but L6.o.but (by rw[HTY.o];decide) (by have:=L6.o.p.kw.bs;have:=L6.o.p.ge;omega)));obtain⟨at6,hat⟩:=Ze s6.at_;obtain⟨er6,her⟩:=Ze s6.err;obtain⟨pa_,pc_,hpb,_⟩:=L6.o.p.blk;have p1:=(Qd hpb).1 1;have p2:=(Qd hpb).1 2;have r0:=(Qd L6.o.res).1 0;have rf:=(Qd L6.o.res).2;have hzr_:=Qb L6.o.res;simp at p1 p2 r0;clear hpb;rw[hat] at p1 hle;rw[her] at p2;have HAT:=Zh hat;have HER:=Zh her;clear hat her;by_cases h0:er6=0
   ·subst h0;by_cases h1:at6<T.length
    ·have h1':(at6:Int)<(T.length:Int):=by omega
     go_wp2_with fail;refine(Qtb L6.o.p 4 ZD).mono ?_;rintro e v9 ⟨rfl,hp,hb⟩;have Lv9:=Zh (L6.o.call hp hb);have hTK7:=Zh (Qg.same hTK.o (Qf.but hb (by rw[L6.o.p.ty];decide) (by have:=L6.o.p.kw.bs;have:=L6.o.p.ge;omega)));clear hTK hp hb p1 p2 r0 rf;have hTK:=Zh hTK7.o;clear hTK7;have hs7:s6.fail 4=⟨at6,4⟩:=by unfold PS.fail;rw[if_pos HER.o,HAT.o]
     rw[hs7] at Lv9;obtain⟨pa_,pc_,hpb,_⟩:=Lv9.o.p.blk;have p1:=(Qd hpb).1 1;have p2:=(Qd hpb).1 2;have r0:=(Qd Lv9.o.res).1 0;have rf:=(Qd Lv9.o.res).2;have hzr_:=Qb Lv9.o.res;simp at p1 p2 r0;clear hpb;have HS7:=Zh hs7;clear hs7;have hlt6:at6<T.length:=by omega
     have htk:T[at6]? = some T[at6]:=List.getElem?_eq_getElem hlt6;obtain⟨tk,htk⟩:∃x,T[at6]? = some x:=⟨_,htk⟩;have HTKN:=Zh htk;obtain⟨a',c',e1,hml,_,_,hcell⟩:=QFb.form hTK.o;injection e1 with e1 e2 e3
     subst e1 e3;obtain⟨tb,off,rfl,htb,htyb,h4⟩:=hcell at6 tk htk;have t2:v9.cell? ⟨tb,off+at6*4+2,none⟩=some (.int .i64 tk.line):=h4 2 ZO;have t3:v9.cell? ⟨tb,off+at6*4+3,none⟩=some (.int .i64 tk.col):=h4 3 ZO;clear htk h4 hcell e2;have hneR:tb≠w.heap.size:=by intro h;rw[h] at htyb;exact absurd (htyb _ (Qv Lv9.o.res (by have:=Lv9.o.p.kw.bs;have:=Lv9.o.p.ge;have:=Lv9.o.lt;omega))) ZD
     have hRbp:(bp==w.heap.size)=false:=by rw[beq_eq_false_iff_ne];omega
     have hRtb:(tb==w.heap.size)=false:=by rw[beq_eq_false_iff_ne];exact hneR
     have h63:(at6:Int)<(T.length:Int):=by omega
     clear htyb hneR;go_wp2;go_region;have HQ:Hid (Qug s.data.toList=⟨[],tk.line,tk.col,4⟩):=by unfold Hid;rw[HPT.o,HR2.o,if_pos ⟨HER.o,by rw[HAT.o];exact h1⟩,HS7.o];unfold QOf;rw[if_neg (show ¬(4:Int)=0 by decide)];dsimp only;rw[HTKN.o];rfl
     go_wp2;have ⟨gc,_⟩:=Qd (Qfj Lv9.o.res (.slice none 0 0));refine bodyPost_ret (v:=.tuple #[.agg #[.slice none 0 0],.int .i64 (tk.line),.int .i64 (tk.col),.int .i64 4]) ?_ rfl ?_
     ·simp[results,Tryz.results125,go_sem,gc]
     rw[HQ.o];exact⟨_,rfl,QLe _,(QXf hWb.o Lv9.o.but ZO (by have:=HBB.o;omega) rfl _).drew⟩
    ·have h1':at6=T.length:=by omega
     subst h1';clear h1 hle;have c0:=(Qd L6.o.loc).1 0;have cf:=(Qd L6.o.loc).2;simp at c0;go_wp2;have ⟨gc,_⟩:=Qd (Qfj L6.o.res (.slice va n vc));refine bodyPost_ret (v:=.tuple #[.agg #[.slice va n vc],.int .i64 0,.int .i64 0,.int .i64 0]) ?_ rfl ?_
     ·simp[results,Tryz.results125,go_sem,gc]
     rw[HPT.o,HR2.o,if_neg (by rw[HAT.o];omega)];unfold QOf;rw[if_pos HER.o];have hk:=QTl (ts:=[9,94,92,89]) (Qv L6.o.res (by have:=L6.o.p.kw.bs;have:=L6.o.p.ge;have:=L6.o.lt;omega)) ZD (.slice va n vc);obtain⟨xss,ex,hall⟩:=(HOK.o HER.o).mono (QEe (fun t ht=>hk t (List.mem_append_left [89] ht)));exact⟨_,rfl,⟨xss,by rw[←ex];exact(Qg.of_owns L6.o.own).same (hk _ ZS),hall⟩,QXf hWb.o L6.o.but ZO (by have:=HBB.o;omega) rfl _⟩
   ·have hE:(er6==0)=false:=by rw[beq_eq_false_iff_ne];exact h0
    by_cases h1:at6=T.length
    ·subst h1;clear hle;go_wp2;have hRbp:(bp==w.heap.size)=false:=by rw[beq_eq_false_iff_ne];omega
     go_region;have HQ:Hid (Qug s.data.toList=⟨[],0,0,er6⟩):=by unfold Hid;rw[HPT.o,HR2.o,if_neg (by rw[HER.o];exact fun h=>h0 h.1)];unfold QOf;rw[if_neg (by rw[HER.o];exact h0),HAT.o,HER.o,List.getElem?_eq_none (Nat.le_refl _)];rfl
     go_wp2;have ⟨gc,_⟩:=Qd (Qfj L6.o.res (.slice none 0 0));refine bodyPost_ret (v:=.tuple #[.agg #[.slice none 0 0],.int .i64 (0),.int .i64 (0),.int .i64 er6]) ?_ rfl ?_
     ·simp[results,Tryz.results125,go_sem,gc]
     rw[HQ.o];exact⟨_,rfl,QLe _,(QXf hWb.o L6.o.but ZO (by have:=HBB.o;omega) rfl _).drew⟩
    ·have hcl:True:=trivial;have hlt6:at6<T.length:=by omega
     have htk:T[at6]? = some T[at6]:=List.getElem?_eq_getElem hlt6;obtain⟨tk,htk⟩:∃x,T[at6]? = some x:=⟨_,htk⟩;have HTKN:=Zh htk;obtain⟨a',c',e1,hml,_,_,hcell⟩:=QFb.form hTK.o;injection e1 with e1 e2 e3
     subst e1 e3;obtain⟨tb,off,rfl,htb,htyb,h4⟩:=hcell at6 tk htk;have t2:wc.cell? ⟨tb,off+at6*4+2,none⟩=some (.int .i64 tk.line):=h4 2 ZO;have t3:wc.cell? ⟨tb,off+at6*4+3,none⟩=some (.int .i64 tk.col):=h4 3 ZO;clear htk h4 hcell e2;have hneR:tb≠w.heap.size:=by intro h;rw[h] at htyb;exact absurd (htyb _ (Qv L6.o.res (by have:=L6.o.p.kw.bs;have:=L6.o.p.ge;have:=L6.o.lt;omega))) ZD
     have hRbp:(bp==w.heap.size)=false:=by rw[beq_eq_false_iff_ne];omega
     have hRtb:(tb==w.heap.size)=false:=by rw[beq_eq_false_iff_ne];exact hneR
     have h63:(at6:Int)<(T.length:Int):=by omega
     clear htyb hneR;go_wp2;go_region;have HQ:Hid (Qug s.data.toList=⟨[],tk.line,tk.col,er6⟩):=by unfold Hid;rw[HPT.o,HR2.o,if_neg (by rw[HER.o];exact fun h=>h0 h.1)];unfold QOf;rw[if_neg (by rw[HER.o];exact h0),HAT.o,HER.o,HTKN.o];rfl
     go_wp2;have ⟨gc,_⟩:=Qd (Qfj L6.o.res (.slice none 0 0));refine bodyPost_ret (v:=.tuple #[.agg #[.slice none 0 0],.int .i64 (tk.line),.int .i64 (tk.col),.int .i64 er6]) ?_ rfl ?_
     ·simp[results,Tryz.results125,go_sem,gc]
     rw[HQ.o];exact⟨_,rfl,QLe _,(QXf hWb.o L6.o.but ZO (by have:=HBB.o;omega) rfl _).drew⟩
end R
end
section
open Go.RowKit
variable [Base]
def QLr:List UInt8:=[102,117,110,99,32,109,59,32,98,108,111,99,107,32,98,59,32,120,32,61,32,121,59,32,114,101,116,117,114,110,59,32,101,110,100]
def Qtc:List Qo:=[⟨[109],[⟨[98],[⟨1,[120],[[121]],[]⟩,⟨9,[],[],[]⟩]⟩]⟩]
theorem Qtq:Qhd QLr=⟨(Qhd QLr).toks,0,0,0⟩:=by kernel_rfl
theorem QKn:Qug QLr=⟨Qtc,0,0,0⟩:=by kernel_rfl
theorem QJr:∀f∈Qtc,∀b∈f.blocks,∀s∈b.stmts,FitS s:=by
 intro f hf b hb s hs;simp[Qtc] at hf;subst hf;simp at hb;subst hb;simp at hs;rcases hs with rfl|rfl <;> simp[FitS]
theorem Qlu:Qxb Qtc 3=0:=by kernel_rfl
theorem Qmu:Qxb Qtc 2=0:=by kernel_rfl
def QOi:Qw:=⟨⟨2,[0]⟩,⟨2,[1]⟩,[(1,0)]⟩
theorem Qtt:(QZc Qtc 3).trans[1]? = some QOi:=by kernel_rfl
theorem Qst:(QZc Qtc 3).trans.length=4:=by kernel_rfl
theorem Qvt:(QZc Qtc 2).deps[0]? = some [1]:=by kernel_rfl
theorem Qut:(QZc Qtc 2).deps.length=4:=by kernel_rfl
def oneS:SysS:=⟨0,[[0]],[⟨⟨0,[]⟩,⟨0,[]⟩,[]⟩],[⟨0,[]⟩]⟩
theorem Qpu:sysB oneS=true:=by kernel_rfl
theorem QIq:QIg oneS=1:=by kernel_rfl
theorem one_w:sysW oneS:=by
 refine⟨fun t ht=>?_,fun b hb=>?_⟩
 ·simp[oneS] at ht;subst ht;exact⟨by simp[QLa],by simp[QLa]⟩
 ·simp[oneS] at hb;subst hb;simp[QLa]
theorem Qjt:eqTB QOi QOi=true:=by kernel_rfl
theorem QXn (m:Nat)(hm:m≤256)(w:World)(hbs:Base.b≤w.heap.size):Calls Tryz.prog 24 #[iv m] w (Qgp (idT m) w):=by
 obtain⟨z,hz⟩:=Ze w.heap.size;obtain⟨W,hW⟩:=Ze (w.alloc (.cells #[iv 0,.slice none 0 0,iv 0,.slice none 0 0,.slice none 0 0] FNA));have BW:=Zh (show Below z w W by rw[←hW,←hz];exact Zb);have HR:=Zh (show W.heap[z]? = some (.cells #[iv 0,.slice none 0 0,iv 0,.slice none 0 0,.slice none 0 0] FNA (0,0)) by rw[←hW,←hz];exact heap_alloc_new _ _);have HW:=Zh hW;have HZ:=Zh hz;have hbz:Base.b≤z:=by omega
 clear hW hbs;go_enter Tryz.func24,Tryz.ntmps24;go_upto_region 1 with(fail)
 rw[show w.alloc (.cells #[iv 0,.slice none 0 0,iv 0,.slice none 0 0,.slice none 0 0] FNA)=W from HW.o]
 try rw[hz]
 go_wp2_with fail;refine(Qjc m hm W).mono ?_;rintro e w1 ⟨u,rfl,ho,b1⟩;obtain⟨ua,un,uc,rfl⟩:=ho.words.shape;have HU:=Zh ho.words;have HR1:=Zh (Qc HR.o b1 (Qb HR.o));have B1:=Zh (BW.o.trans (b1.mono (by have:=Qb HR.o;omega)));rw[show setV (Qy m) (.slice ua un uc)=.agg #[iv m,.slice ua un uc] from rfl];clear ho b1;go_wp2_with fail;refine(Qjc m hm w1).mono ?_;rintro e w2 ⟨v,rfl,ho,b2⟩;obtain⟨va,vn,vc,rfl⟩:=ho.words.shape;have HV:=Zh ho.words;have HU2:=Zh (HU.o.below b2);have HR2:=Zh (Qc HR1.o b2 (Qb HR1.o));have B2:=Zh (B1.o.trans (b2.mono (by have:=Qb HR1.o;omega)));rw[show setV (Qy m) (.slice va vn vc)=.agg #[iv m,.slice va vn vc] from rfl];clear ho b2;obtain⟨c0,c1,c2,c3,c4⟩:=QJ HR2.o;have f0:=(Qa HR2.o).2 0;have f1:=(Qa HR2.o).2 1;have f2:=(Qa HR2.o).2 2;have f3:=(Qa HR2.o).2 3;have f4:=(Qa HR2.o).2 4;have E5:=Zh (set5 HR2.o (iv m) (.slice ua un uc) (iv m) (.slice va vn vc) (.slice none 0 0));have HS:=Zh (fun (T:TypeId) (hne:T≠FNA)=>Quc (T:=T) (Qv HR2.o ZO) hne (iv m) (.slice ua un uc) (iv m) (.slice va vn vc) (.slice none 0 0));have HT5:=Zh (show Qja _ (.slice ua un uc) (.slice va vn vc) (.slice none 0 0) (idT m) from⟨HU2.o.keep (HS.o _ ZD),HV.o.keep (HS.o _ ZD),QKc.nil⟩);have HB5:=Zh (show Below z w (((((w2.setCell ⟨z,0,none⟩ (iv m)).setCell ⟨z,1,none⟩ (.slice ua un uc)).setCell ⟨z,2,none⟩ (iv m)).setCell ⟨z,3,none⟩ (.slice va vn vc)).setCell ⟨z,4,none⟩ (.slice none 0 0)) from
  ((((B2.o.setCell (Nat.le_refl _) _).setCell (Nat.le_refl _) _).setCell (Nat.le_refl _) _).setCell (Nat.le_refl _) _).setCell (Nat.le_refl _) _)
 go_wp2;obtain⟨g0,g1,g2,g3,g4⟩:=QJ E5.o;refine bodyPost_ret (v:=.agg #[iv m,.slice ua un uc,iv m,.slice va vn vc,.slice none 0 0]) (by simp[results,Tryz.results24,go_sem,g0,g1,g2,g3,g4]) rfl ⟨_,_,_,rfl,HT5.o,by rw[HZ.o];exact HB5.o⟩
theorem QBn {B:Nat}{w:World}(kw:KwIn B w)(ef:Qmg B w)(tz:TzIn B w)(hB:B≤w.heap.size)(kind:Int):
  Calls Tryz.prog 57 #[.string ⟨#[102,117,110,99,32,109,59,32,98,108,111,99,107,32,98,59,32,120,32,61,32,121,59,32,114,101,116,117,114,110,59,32,101,110,100]⟩,iv kind] w (SysE (ofT Qtc kind) w):=by
 obtain⟨z,hz⟩:=Ze w.heap.size;have hbz:Base.b≤z:=by have:=kw.bs;omega
 obtain⟨W,hW⟩:=Ze (w.alloc (.cells #[iv 0,.slice none 0 0,.slice none 0 0,.slice none 0 0] SYT));have BW:=Zh (show Below z w W by rw[←hW,←hz];exact Zb);have HR:=Zh (show W.heap[z]? = some (.cells #[iv 0,.slice none 0 0,.slice none 0 0,.slice none 0 0] SYT (0,0)) by rw[←hW,←hz];exact heap_alloc_new _ _);have KP:=Zh (show Calls Tryz.prog 125 #[.string ⟨#[102,117,110,99,32,109,59,32,98,108,111,99,107,32,98,59,32,120,32,61,32,121,59,32,114,101,116,117,114,110,59,32,101,110,100]⟩] W (Qip W ⟨Qtc,0,0,0⟩) from
  QKn▸R.parse_good (B:=B) (kw.keep fun k hk=>BW.o.block k ZO) (by have:=BW.o.size;omega) ⟨#[102,117,110,99,32,109,59,32,98,108,111,99,107,32,98,59,32,120,32,61,32,121,59,32,114,101,116,117,114,110,59,32,101,110,100]⟩ Qtq)
 have KO:=Zh (fun (x:World) (b:Below z w x) (v:Value) (hv:QAa x v Qtc)=>Qqu (B:=B) (kw.keep fun k hk=>b.block k ZO) (ef.below (b.mono ZO)) (tz.below (b.mono ZO)) (by have:=b.size;omega) Qtc v hv QJr kind);have HW:=Zh hW;have HZ:=Zh hz;clear hW kw ef tz hB;go_enter Tryz.func57,Tryz.ntmps57;go_upto_region 1 with(fail)
 rw[show w.alloc (.cells #[iv 0,.slice none 0 0,.slice none 0 0,.slice none 0 0] SYT)=W from HW.o]
 try rw[hz]
 go_wp2_with fail;refine KP.o.mono ?_;rintro e w1 ⟨v,rfl,hv,b1⟩;obtain⟨va,vc,rfl,-,-⟩:=hv.cell;obtain⟨vn,hvn⟩:=Ze Qtc.length;rw[hvn] at hv ⊢;have HV:=Zh hv;have B1:=Zh (BW.o.trans (b1.mono (by have:=Qb HR.o;omega)));have HR1:=Zh (Qc HR.o b1 (Qb HR.o));obtain⟨W2,hW2⟩:=Ze (w1.alloc (.cells #[.slice va vn vc] PRT));obtain⟨q,hq⟩:=Ze w1.heap.size;have A2:=Zh (show Below w1.heap.size w1 W2 by rw[←hW2];exact Zb);have HQ:=Zh (show W2.heap[q]? = some (.cells #[.slice va vn vc] PRT (0,0)) by rw[←hW2,←hq];exact heap_alloc_new _ _);have B2:=Zh (B1.o.trans (A2.o.mono (by have:=Qb HR1.o;omega)):Below z w W2);have HR2:=Zh (Qc HR1.o A2.o (Qb HR1.o));have KO2:=Zh (KO.o W2 B2.o _ (HV.o.keep (Qf.below A2.o) (Qf.below A2.o) (Qf.below A2.o) (Qf.below A2.o)));have HW2:=Zh hW2;clear hv b1 hW2 hvn KP;go_upto_region 2 with(fail)
 try rw[hq]
 rw[show w1.alloc (.cells #[.slice va vn vc] PRT)=W2 from HW2.o];clear hq;have x0:=(Qd HQ.o).1 0;simp at x0;go_wp2_with fail;refine KO2.o.mono ?_;rintro e w3 ⟨dv,tv,bv,rfl,hs,b3⟩;obtain⟨SS,hSS⟩:=Ze (ofT Qtc kind);rw[hSS] at hs ⊢;have HSS:=Zh hSS;clear KO2 KO hSS;obtain⟨da,dc,rfl,-⟩:=hs.deps.cell;obtain⟨ta,tc,rfl,-⟩:=hs.trans.cell;obtain⟨ba,bc,rfl,-⟩:=hs.bnds.cell;obtain⟨dn,hdn⟩:=Ze SS.1.deps.length;obtain⟨tn,htn⟩:=Ze SS.1.trans.length;obtain⟨bn,hbn⟩:=Ze SS.1.bnds.length;obtain⟨sw,hsw⟩:=Ze SS.1.width;obtain⟨er,her⟩:=Ze SS.2;rw[hdn,htn,hbn] at hs;simp only[sysV,hdn,htn,hbn,hsw,her];have HS:=Zh hs;have HSW:=Zh (And.intro hsw her);have B3:=Zh (B2.o.trans (b3.mono (by have:=Qb HR2.o;omega)));have HR3:=Zh (Qc HR2.o b3 (Qb HR2.o));clear hs b3 hdn htn hbn hsw her x0;obtain⟨c0,c1,c2,c3⟩:=Qt HR3.o;have f0:=(Qa HR3.o).2 0;have f1:=(Qa HR3.o).2 1;have f2:=(Qa HR3.o).2 2;have f3:=(Qa HR3.o).2 3;have E4:=Zh (set4 HR3.o (iv sw) (.slice da dn dc) (.slice ta tn tc) (.slice ba bn bc));have HS5:=Zh (fun (U:TypeId) (hne:U≠SYT)=>Qsg (T:=U) (Qv HR3.o ZO) hne (iv sw) (.slice da dn dc) (.slice ta tn tc) (.slice ba bn bc));have HSA2:=Zh (HS.o.keep fun U hU=>HS5.o U (by
  simp only[List.mem_cons,List.mem_nil_iff,or_false] at hU;rcases hU with rfl|rfl|rfl|rfl|rfl|rfl <;> decide))
 have HB4:=Zh (show Below z w ((((w3.setCell ⟨z,0,none⟩ (iv sw)).setCell ⟨z,1,none⟩ (.slice da dn dc)).setCell ⟨z,2,none⟩ (.slice ta tn tc)).setCell ⟨z,3,none⟩ (.slice ba bn bc)) from
  (((B3.o.setCell (Nat.le_refl _) _).setCell (Nat.le_refl _) _).setCell (Nat.le_refl _) _).setCell (Nat.le_refl _) _)
 go_wp2;obtain⟨g0,g1,g2,g3⟩:=Qt E4.o;refine bodyPost_ret (v:=.tuple #[.agg #[iv sw,.slice da dn dc,.slice ta tn tc,.slice ba bn bc],iv er]) (by simp[results,Tryz.results57,go_sem,g0,g1,g2,g3]) rfl ?_;rw[HSS.o];exact⟨.slice da dn dc,.slice ta tn tc,.slice ba bn bc,by simp only[sysV];rw[HSW.o.1,HSW.o.2],HSA2.o,by rw[HZ.o];exact HB4.o⟩
end
section
open Go.RowKit
variable [Base]
theorem inS' {X:TypeId}(h1:ST≠X)(h2:X≠139):∀U∈Qsa.T::Qsa.inner,U≠X:=fun U hU=>(List.mem_cons.1 hU).elim (fun e=>e▸h1) (inS h2 U)
theorem inA' {X:TypeId}(h1:ART≠X)(h2:X≠139)(h3:X≠CT):∀U∈QKu.T::QKu.inner,U≠X:=fun U hU=>(List.mem_cons.1 hU).elim (fun e=>e▸h1) (inA h2 h3 U)
theorem inL' {X:TypeId}(h0:ARS≠X)(h1:ART≠X)(h2:X≠139)(h3:X≠CT):∀U∈QWu.T::QWu.inner,U≠X:=fun U hU=>(List.mem_cons.1 hU).elim (fun e=>e▸h0) (inA' h1 h2 h3 U)
def LwQ (bt q:Nat)(w1 wx:World):Prop:=∃(s:WebS) (bv av:Value),wx.heap[q]? = some (.cells #[iv s.width,bv,av] WBT (0,0))∧QUu wx bv av s∧(∀l∈s.arcs,l.length≤2199023255552)∧QZ bt wx bt∧But bt w1 wx
structure LwIn (bt z q n m:Nat)(w1 wr:World)(bs:List QSet)(R:List Arcs)(bv av:Value)(vs:List Value):Prop where
 tape:QZ bt wr bt
 but:But bt w1 wr
 cur:wr.heap[q]? = some (.cells #[iv m,bv,av] WBT (0,0))
 bd:QG Qsa z wr bv bs
 own:wr.ownsRow z ARS 1 av n vs
 ar:QPu z wr vs R
 bl:bs.length=n
 al:R.length=n
 okB:∀b∈bs,Ok m b
 rl:∀l∈R,l.length≤1024
 old:w1.heap.size≤z∧z≤q∧bt<w1.heap.size∧1≤n
section
variable {bt z q n m:Nat} {w1 wr w2:World} {bs:List QSet} {R:List Arcs} {bv av:Value} {vs:List Value}
theorem QRv:∀V∈Qsa.inner,V≠85:=inS ZD
theorem QSv:∀V∈QKu.inner,V≠85:=inA ZD ZD
theorem LwIn.base (h:LwIn bt z q n m w1 wr bs R bv av vs):Base.b≤z:=by have:=h.tape.bs;have:=h.old;omega
theorem LwIn.vl (h:LwIn bt z q n m w1 wr bs R bv av vs):vs.length=n:=by have:=h.ar.len;have:=h.al;omega
theorem LwIn.next (h:LwIn bt z q n m w1 wr bs R bv av vs)(ht:QZ bt w2 bt)(hb:But bt wr w2):LwIn bt z q n m w1 w2 bs R bv av vs:=by
 obtain⟨o1,o2,o3,o4⟩:=h.old;exact⟨ht,h.but.trans hb,(hb.block q (Qb h.cur) ZO).trans h.cur,h.bd.but h.tape hb ZO QRv,Qzp (B:=bt) h.own hb ZO,h.ar.map fun _ _ ho=>ho.but h.tape hb ZO QSv,h.bl,h.al,h.okB,h.rl,h.old⟩
theorem LwIn.below (h:LwIn bt z q n m w1 wr bs R bv av vs)(hb:Below wr.heap.size wr w2):LwIn bt z q n m w1 w2 bs R bv av vs:=h.next (h.tape.below hb) ((But.refl bt wr).below hb)
theorem LwIn.vals (h:LwIn bt z q n m w1 wr bs R bv av vs):∃(g cap:Nat) (c:Array Value),av=.slice (some ⟨g,0,none⟩) n cap∧z≤g∧wr.heap[g]? = some (.cells c ARS (0,0))∧n≤cap∧cap≤maxLen∧(∀(i:Nat) (x:Value),vs[i]? = some x→c[i]? = some x)∧g≠q:=by
 obtain⟨o1,o2,o3,o4⟩:=h.old;obtain⟨g,cap,c,e,h1,h2,h3,h4,h5⟩:=Qvv h.own o4;refine⟨g,cap,c,e,h1,h2,h3,h4,h5,fun e=>?_⟩;subst e;have h6:=h.cur;rw[h2] at h6;injection h6 with h6
 injection h6 with _ h6 _
 exact absurd h6 ZD
theorem LwIn.web (h:LwIn bt z q n m w1 wr bs R bv av vs):QUu wr bv av ⟨m,bs,R⟩:=by
 obtain⟨g,cap,c,rfl,h1,h2,h3,h4,h5,-⟩:=h.vals;exact⟨h.bd.rows,Qrv h2 h.vl h3 h4 (fun i v hv=>by rw[Nat.zero_add];exact h5 i v hv) (fun i v r hv hr=>(h.ar.own i v r hv hr).rows) h.ar.len⟩
theorem QUu.keepW {w w':World}{bv av:Value}{s:WebS}(h:QUu w bv av s)(hs:∀T,T≠WBT→Qf T w w'):QUu w' bv av s:=
 ⟨h.bnds.keep fun U hU=>hs U (inS' ZD ZD U hU),h.arcs.keep fun U hU=>hs U (inL' ZD ZD ZD ZD U hU)⟩
theorem LwIn.same (h:LwIn bt z q n m w1 wr bs R bv av vs):LwQ bt q w1 wr:=⟨⟨m,bs,R⟩,bv,av,h.cur,h.web,fun l hl=>by have:=h.rl l hl;omega,h.tape,h.but⟩
theorem LwIn.off (h:LwIn bt z q n m w1 wr bs R bv av vs)(o:Nat)(x:Value):QZ bt (wr.setCell ⟨q,o,none⟩ x) bt∧But bt w1 (wr.setCell ⟨q,o,none⟩ x)∧∀T,T≠WBT→Qf T wr (wr.setCell ⟨q,o,none⟩ x):=by
 obtain⟨o1,o2,o3,o4⟩:=h.old;have hbs:=h.base;have hT:tyAt wr q=some WBT:=Qv h.cur ZO;exact⟨h.tape.setCell (by show q≠bt;omega) (by show bt≤q;omega) _,h.but.setCell ⟨q,o,none⟩ (.inr (by show w1.heap.size≤q;omega)) _,fun T hne=>Qf.setCell (U:=WBT) hT hne⟩
theorem LwIn.width (h:LwIn bt z q n m w1 wr bs R bv av vs)(d:Int):LwQ bt q w1 (wr.setCell ⟨q,0,none⟩ (iv d)):=by
 obtain⟨h1,h2,h3⟩:=h.off 0 (iv d);have hw:=h.web.keepW h3;exact⟨⟨d,bs,R⟩,bv,av,by simp[World.setCell,Array.getElem?_modify,h.cur],⟨hw.bnds,hw.arcs⟩,fun l hl=>by have:=h.rl l hl;omega,h1,h2⟩
theorem LwIn.tail {g cap:Nat}(h:LwIn bt z q n m w1 wr bs R bv (.slice (some ⟨g,0,none⟩) n cap) vs)(a:Option Addr)(ha:a=some ⟨g,1,none⟩∨cap=1):
  LwQ bt q w1 (wr.setCell ⟨q,2,none⟩ (.slice a (n-1) (cap-1))):=by
 obtain⟨o1,o2,o3,o4⟩:=h.old;obtain⟨h1,h2,h3⟩:=h.off 2 (.slice a (n-1) (cap-1));obtain⟨g',cap',c,e,k1,k2,k3,k4,k5,-⟩:=h.vals;injection e with e1 _ e2
 injection e1 with e1
 injection e1 with e1
 subst e1 e2;have hvl:=h.vl;have hal:=h.al;have hr:Qoa QWu wr (.slice a (n-1) (cap-1)) (R.drop 1):=by
  by_cases hn:cap=1
  ·have hR:R.drop 1=[]:=List.drop_eq_nil_of_le ZO;rw[hR,show n=1 by omega,hn];exact⟨[],⟨0,0,rfl,Nat.zero_le _,Nat.zero_le _,.inl ⟨⟨a,rfl⟩,rfl⟩⟩,trivial⟩
  ·obtain rfl:=ha.resolve_right hn;exact Qrv (vs:=vs.drop 1) k2 (by rw[List.length_drop];omega) ZO ZO (fun i v hv=>by
    rw[List.getElem?_drop] at hv;exact k5 _ _ hv) (fun i v r hv hr=>by
    rw[List.getElem?_drop] at hv hr;exact(h.ar.own _ v r hv hr).rows) (by rw[List.length_drop,List.length_drop,h.ar.len])
 exact⟨⟨m,bs,R.drop 1⟩,bv,.slice a (n-1) (cap-1),by simp[World.setCell,Array.getElem?_modify,h.cur],⟨(h.web.keepW h3).bnds,hr.keep fun U hU=>h3 U (inL' ZD ZD ZD ZD U hU)⟩,
  fun l hl=>by have:=h.rl l (List.mem_of_mem_drop hl);omega,h1,h2⟩
theorem LwIn.bnd {k g cap:Nat}{s:QSet}{u:Value}(h:LwIn bt z q n m w1 wr bs R (.slice (some ⟨g,0,none⟩) n cap) av vs)(hk:k<n)(hu:Qi wr u s.words):
  LwQ bt q w1 ((wr.setCell ⟨g,k*2,none⟩ (iv s.width)).setCell ⟨g,k*2+1,none⟩ u):=by
 obtain⟨o1,o2,o3,o4⟩:=h.old;have hbs:=h.base;obtain⟨xss,ho,hx⟩:=h.bd;rw[h.bl] at ho;obtain⟨g',e,hgz,hgs,hT,-,-⟩:=QWd ho o4 hbs;injection e with e
 injection e with e
 subst e;have hT:tyAt wr g=some ST:=hT;have hT2:tyAt (wr.setCell ⟨g,k*2,none⟩ (iv s.width)) g=some ST:=(QS g).trans hT;have hS:∀T,T≠ST→Qf T wr ((wr.setCell ⟨g,k*2,none⟩ (iv s.width)).setCell ⟨g,k*2+1,none⟩ u):=fun T hne=>(Qf.setCell (U:=ST) hT hne).trans (Qf.setCell (U:=ST) hT2 hne)
 have hne:q≠g:=by
  rintro rfl;rw[Qv h.cur ZO] at hT;exact absurd hT (show ¬some WBT=some ST by decide)
 have hxl:xss.length=n:=by rw[←h.bl];exact hx.length
 have hl2:∀l∈xss,l.length=2:=hx.eachR fun _ _ hy=>Qsa.len hy
 have ho2:=Qvd (Qvd ho (k*2) (iv s.width)) (k*2+1) u;rw[QTh xss k _ _ hl2 ZO] at ho2;have hx2:All2 (Qsa.C ((wr.setCell ⟨g,k*2,none⟩ (iv s.width)).setCell ⟨g,k*2+1,none⟩ u)) (xss.set k [iv s.width,u]) (bs.set k s):=
  (hx.mono fun _ _ hc=>Qsa.keep (fun V hV=>hS V (inS ZD V hV)) hc).setAt k ⟨u,rfl,hu.keep (hS _ ZD)⟩
 have hR:Qoa Qsa ((wr.setCell ⟨g,k*2,none⟩ (iv s.width)).setCell ⟨g,k*2+1,none⟩ u) (.slice (some ⟨g,0,none⟩) n cap) (bs.set k s):=⟨_,Qg.of_owns ho2,hx2⟩;refine⟨⟨m,bs.set k s,R⟩,.slice (some ⟨g,0,none⟩) n cap,av,?_,⟨hR,h.web.arcs.keep fun U hU=>hS U (inL' ZD ZD ZD ZD U hU)⟩,fun l hl=>by have:=h.rl l hl;omega,
  (h.tape.setCell (by show g≠bt;omega) (by show bt≤g;omega) _).setCell (by show g≠bt;omega) (by show bt≤g;omega) _,
  (h.but.setCell ⟨g,k*2,none⟩ (.inr (by show w1.heap.size≤g;omega)) _).setCell ⟨g,k*2+1,none⟩ (.inr (by show w1.heap.size≤g;omega)) _⟩
 rw[Below.heap_setCell _ _ _ _ hne,Below.heap_setCell _ _ _ _ hne];exact h.cur
theorem LwQ.set {k g cap:Nat}{c:Array Value}{u:Value}{r:Arcs}(ht:QZ bt w2 bt)(hb:But bt w1 w2)(hq:w2.heap[q]? = some (.cells #[iv m,bv,.slice (some ⟨g,0,none⟩) n cap] WBT (0,0)))(hbd:Qoa Qsa w2 bv bs)(hg:w2.heap[g]? = some (.cells c ARS (0,0)))(hc:∀(i:Nat) (x:Value),vs[i]? = some x→c[i]? = some x)(hvl:vs.length=n)(hl:vs.length=R.length)(hn:n≤cap)(hm:cap≤maxLen)(hk:k<n)(hrow:∀(j:Nat) (v:Value) (r:Arcs),k≠j→vs[j]? = some v→R[j]? = some r→Qoa QKu w2 v r)(hu:Qoa QKu w2 u r)(hrl:∀l∈R,l.length≤1024)(hr:r.length≤2048)(hgq:g≠q)(hg1:w1.heap.size≤g)(hgb:bt<g)(hbs:Base.b≤g):
  LwQ bt q w1 (w2.setCell ⟨g,k,none⟩ u):=by
 have hT:tyAt w2 g=some ARS:=Qv hg hbs;have hS:∀T,T≠ARS→Qf T w2 (w2.setCell ⟨g,k,none⟩ u):=fun T hne=>Qf.setCell (U:=ARS) hT hne
 have hkeep:∀{v:Value} {r:Arcs},Qoa QKu w2 v r→Qoa QKu (w2.setCell ⟨g,k,none⟩ u) v r:=fun h=>h.keep fun U hU=>hS U (inA' ZD ZD ZD U hU)
 have hcs:k<c.size:=by
  have h1:=hc k _ (List.getElem?_eq_getElem (show k<vs.length by omega));exact(Array.getElem?_eq_some_iff.1 h1).1
 have hg2:(w2.setCell ⟨g,k,none⟩ u).heap[g]? = some (.cells (c.set k u hcs) ARS (0,0)):=by
  simp[World.setCell,Array.getElem?_modify,hg,Array.setIfInBounds,hcs]
 refine⟨⟨m,bs,R.set k r⟩,bv,.slice (some ⟨g,0,none⟩) n cap,?_,⟨hbd.keep fun U hU=>hS U (inS' ZD ZD U hU),?_⟩,fun l hlm=>?_,ht.setCell (by show g≠bt;omega) (by show bt≤g;omega) _,hb.setCell ⟨g,k,none⟩ (.inr hg1) _⟩
 ·rw[Below.heap_setCell _ _ _ _ (Ne.symm hgq)];exact hq
 ·refine Qrv (vs:=vs.set k u) hg2 (by rw[List.length_set];exact hvl) hn hm (fun i v hv=>?_) (fun i v x hv hx=>?_) (by rw[List.length_set,List.length_set];exact hl)
  ·rw[Nat.zero_add];rw[List.getElem?_set] at hv;rw[Array.getElem?_set];by_cases hik:k=i
   ·subst hik;rw[if_pos rfl,if_pos ZO] at hv;rw[if_pos rfl];exact hv
   ·rw[if_neg hik] at hv ⊢;exact hc i v hv
  ·rw[List.getElem?_set] at hv hx;by_cases hik:k=i
   ·subst hik;rw[if_pos rfl,if_pos ZO] at hv hx;injection hv with hv
    injection hx with hx
    subst hv hx;exact hkeep hu
   ·rw[if_neg hik] at hv hx;exact hkeep (hrow i v x hik hv hx)
 ·rcases List.mem_or_eq_of_mem_set hlm with h|rfl
  ·have:=hrl l h;omega
  ·omega
theorem LwIn.grow {k g cap a c2:Nat}{v:Value}{r:Arcs}{xss:List (List Value)}{i:Int}{t:Qw}{gu ku cu:Value}(h:LwIn bt z q n m w1 wr bs R bv (.slice (some ⟨g,0,none⟩) n cap) vs)(hv:vs[k]? = some v)(hr:R[k]? = some r)(ho:wr.ownsRow z ART 6 v r.length xss.flatten)(hx:All2 (QKu.C wr) xss r)(hta:Qja wr gu ku cu t)(ho2:w2.ownsRow z ART 6 (.slice (some ⟨a,0,none⟩) (r.length+1) c2) (r.length+1) (xss.flatten++[iv i,iv t.gen.width,gu,iv t.kill.width,ku,cu]))(hg:wr.grownBy w2 v.ownBlock):
  LwQ bt q w1 (w2.setCell ⟨g,k,none⟩ (.slice (some ⟨a,0,none⟩) (r.length+1) c2))∧w2.heap[q]? = some (.cells #[iv m,bv,.slice (some ⟨g,0,none⟩) n cap] WBT (0,0))∧w2.heap[g]? = wr.heap[g]?:=by
 obtain⟨o1,o2,o3,o4⟩:=h.old;have hbs:=h.base;obtain⟨g',cap',c,e,k1,k2,k3,k4,k5,k6⟩:=h.vals;injection e with e1 _ e2
 injection e1 with e1
 injection e1 with e1
 subst e1 e2;have hz:z≤wr.heap.size:=by have:=Qb h.cur;omega
 have hB:Below z wr w2:=Below.of_grown hg ho hz;have noA:∀{j:Nat} {cs:Array Value} {T:TypeId},wr.heap[j]? = some (.cells cs T (0,0))→T≠ART→w2.heap[j]? = some (.cells cs T (0,0)):=fun {j cs T} hk hT=>
  (hg.block j (Qb hk) (Qdb ho hk (fun c' fr e=>by injection e with _ e _;exact absurd e hT))).trans hk
 have hcur:=noA h.cur ZD;have hga:=noA k2 ZD;have hkn:k<n:=by have:=(List.getElem?_eq_some_iff.1 hv).1;have:=h.vl;omega
 have hb2:But bt w1 w2:=⟨hB.os.trans h.but.os,hB.tape.trans h.but.tape,hB.output.trans h.but.output,Nat.le_trans h.but.size hB.size,fun j hj hn=>(hB.block j ZO).trans (h.but.block j hj hn)⟩;have ht2:QZ bt w2 bt:=h.tape.keep (hB.block bt ZO) (fun j hj=>hB.block j ZO) hB.size;have hu2:QG QKu z w2 (.slice (some ⟨a,0,none⟩) (r.length+1) c2) (r++[(i,t)]):=QG.push (news:=[iv i,iv t.gen.width,gu,iv t.kill.width,ku,cu]) ho hx hg ho2 ⟨gu,ku,cu,rfl,hta⟩ (inA (show ART≠139 by decide) (show ART≠CT by decide)) hbs;have hrl:=h.rl r (List.mem_of_getElem? hr);exact⟨LwQ.set ht2 hb2 hcur (h.bd.grownT ho hg (show ST≠ART by decide) (inS ZD) hbs).rows hga k5 h.vl h.ar.len k3 k4 hkn (fun j u x hj hu hx=>(h.ar.others hv ho hg hbs j u x hj hu hx).rows) hu2.rows h.rl (by rw[List.length_append];simp;omega) k6 ZO ZO ZO,hcur,hga.trans k2.symm⟩
theorem LwIn.place {k g cap c2:Nat}{a:Option Addr}{v:Value}{r:Arcs}{xss:List (List Value)}{i:Int}{t:Qw}{gu ku cu:Value}{y:Nat}(h:LwIn bt z q n m w1 wr bs R bv (.slice (some ⟨g,0,none⟩) n cap) vs)(hv:vs[k]? = some v)(hr:R[k]? = some r)(hx:All2 (QKu.C wr) xss r)(hta:Qja wr gu ku cu t)(ho2:w2.ownsRow y ART 6 (.slice a (1+r.length) c2) (1+r.length) ([iv i,iv t.gen.width,gu,iv t.kill.width,ku,cu]++xss.flatten))(hB:Below wr.heap.size wr w2):
  LwQ bt q w1 (w2.setCell ⟨g,k,none⟩ (.slice a (1+r.length) c2))∧w2.heap[q]? = some (.cells #[iv m,bv,.slice (some ⟨g,0,none⟩) n cap] WBT (0,0))∧w2.heap[g]? = wr.heap[g]?:=by
 obtain⟨o1,o2,o3,o4⟩:=h.old;have hbs:=h.base;obtain⟨g',cap',c,e,k1,k2,k3,k4,k5,k6⟩:=h.vals;injection e with e1 _ e2
 injection e1 with e1
 injection e1 with e1
 subst e1 e2;have h2:=h.below hB;have hga:w2.heap[g]? = wr.heap[g]?:=hB.block g (Qb k2);have hkn:k<n:=by have:=(List.getElem?_eq_some_iff.1 hv).1;have:=h.vl;omega
 have hu2:Qoa QKu w2 (.slice a (1+r.length) c2) ((i,t)::r):=⟨[iv i,iv t.gen.width,gu,iv t.kill.width,ku,cu]::xss,Qg.of_owns ho2,⟨gu,ku,cu,rfl,hta.below hB⟩,hx.mono fun _ _ hc=>QKu.keep (fun V hV=>Qf.below hB) hc⟩;have hrl:=h.rl r (List.mem_of_getElem? hr);exact⟨LwQ.set h2.tape h2.but h2.cur h2.bd.rows (hga.trans k2) k5 h.vl h.ar.len k3 k4 hkn (fun j u x hj hu hx=>(h2.ar.own j u x hu hx).rows) hu2 h.rl (by rw[List.length_cons];omega) k6 ZO ZO ZO,h2.cur,hga⟩
end
end
end Go.Proofs.YtijekimobahgpaaGreatDoor
