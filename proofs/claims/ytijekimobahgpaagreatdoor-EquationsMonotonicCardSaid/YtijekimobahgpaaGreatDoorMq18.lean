/- 'flqlaw10.EquationsMonotonic' returns true at every input: a right side is monotonic, and distributes over unions. The variables that the program's text lays (keywords, the table of effects, the table of trailing zeros) hold what the text lays (the given tie). No condition beyond the statement's own. (nobase) -/
import Derived.Test.YtijekimobahgpaaGreatDoorMq17
import Derived.LaidMore
import Derived.OpenShut
import Derived.Test.YtijekimobahgpaaGreatDoorCards
import Derived.Test.YtijekimobahgpaaGreatDoorTie
import Derived.ProofKit
import Derived.Carry
import Derived.Deep.Strs
import Derived.ChangeMaps5
import Derived.ChangeOld
import Derived.Stop.Joined
import Derived.SevenTiedAt
set_option linter.unusedVariables false
set_option linter.unusedSimpArgs false
set_option linter.unusedSectionVars false
set_option maxRecDepth 100000
set_option maxHeartbeats 16000000
namespace Go.Proofs.YtijekimobahgpaaGreatDoor
section
open Go
theorem Qwl {H:Type} {enc:TypeId×Value→H} {P:Program} {w:World} {base:Nat} {sp:Nat→Bool} {held:Bool} {fuel:Nat} {t e u:TypeId} {n m:Nat} {k:IntKind} {zss:List (List Int)} {cs:List Value} {p:List MemPlace}
  (ht:P.underlying t=some (.array n e)) (he:P.underlying e=some (.array m u)) (hu:P.underlying u=some (.int k)) (hcu:P.cellsOf u=1) (hce:P.cellsOf e=m) (hct:P.cellsOf t=n*m)
  (h:DataW.trod enc P w base sp held fuel t cs=some (.agg (zss.map (Lib.tabData k)),p)) (i:Nat) (zs:List Int) (hi:zss[i]? = some zs):(cs.drop (i*m)).take m=zs.map fun z=>Value.int k z:=by
 cases fuel with
|zero=>simp [DataW.trod] at h
|succ fuel=>
  simp only [DataW.trod,ht,hce,hct] at h
  split at h
  ·rename_i hl;obtain⟨xs,hm,hx⟩:=Option.map_eq_some_iff.1 h;have hxs:xs.map (·.1)=zss.map (Lib.tabData k):=by
    have:=congrArg Prod.fst hx
    simpa using this
   have hxl:xs.length=n:=by simpa using Lib.mapM_length hm
   have hin:i<n:=by
    have h1:=(List.getElem?_eq_some_iff.1 hi).1;have h2:=congrArg List.length hxs;simp at h2;omega
   obtain⟨b,hb,hf⟩:=Lib.mapM_at hm i i (by simp [hin]);have h3:=congrArg (·[i]?) hxs;simp only [List.getElem?_map,hb,hi,Option.map_some,Option.some.injEq] at h3;obtain⟨b1,b2⟩:=b;subst h3;exact Lib.cells_of_tab he hu hcu hce hf
  ·cases h
end
section
open Go.ChangeShapes Go.WideShapes Go.ChangeAt Go.WideMaps Go.WideElems Go.ChangeMaps Go.Deep Go.RowKit
theorem own:ownKnob Tryz.prog.godebug=none:=by kernel_rfl
theorem gTz:Tryz.prog.globalNamed "math/bits.deBruijn64tab" = some 1:=by kernel_rfl
theorem tTz:(Tryz.prog.globals[1]?).map (·.type)=some 263:=by kernel_rfl
theorem gKw:Tryz.prog.globalNamed "flowquery/lexer.keywords" = some 2:=by kernel_rfl
theorem tKw:(Tryz.prog.globals[2]?).map (·.type)=some 86:=by kernel_rfl
theorem gEf:Tryz.prog.globalNamed "flowquery/equations.effects" = some 0:=by kernel_rfl
theorem tEf:(Tryz.prog.globals[0]?).map (·.type)=some 170:=by kernel_rfl
theorem cU8:Tryz.prog.cellsOf 5=1:=by kernel_rfl
theorem cTz:Tryz.prog.cellsOf 263=64:=by kernel_rfl
theorem cStr:Tryz.prog.cellsOf 9=1:=by kernel_rfl
theorem cInt:Tryz.prog.cellsOf 3=1:=by kernel_rfl
theorem c5:Tryz.prog.cellsOf 169=5:=by kernel_rfl
theorem cEf:Tryz.prog.cellsOf 170=10*5:=by kernel_rfl
def QAm:List (String×DataW Unit):=[("math/bits.deBruijn64tab",Rows.laid_math_bits_deBruijn64tab),("flowquery/lexer.keywords",Rows.laid_flowquery_lexer_keywords),("flowquery/equations.effects",Rows.laid_flowquery_equations_effects)]
def tz64:List Int:=Lib.deBruijn64tab.map Int.ofNat
theorem d64:(Rows.laid_math_bits_deBruijn64tab:DataW Unit)=Lib.tabData .u8 tz64:=rfl
def effL:List (List Int):=(List.range 10).map fun o=>(List.range 5).map fun k=>(effN o k:Int)
theorem dEf:(Rows.laid_flowquery_equations_effects:DataW Unit)=.agg (effL.map (Lib.tabData .i64)):=rfl
theorem Qwh {w:World} {b o:Nat} {v:Value} (h:w.cell? ⟨b,o,none⟩=some v):b<w.heap.size:=by
 rcases Nat.lt_or_ge b w.heap.size with h'|h'
 ·exact h'
 ·simp [World.cell?,Array.getElem?_eq_none h'] at h
theorem QHs (os:Os) (args:Array Value):laidMetH Tryz.prog QAm ((World.doorLaid Tryz.prog 400 os).forCall (fun _ _=>0) ⟨#[],args,[]⟩).memory:=
 laidMetH_of_parts3 (fuel:=8) (laidMet_of_run' 8 (by kernel_rfl) (by kernel_rfl)) (by kernel_rfl) (by kernel_rfl)
theorem Qzt [Base] {W:World} (h:laidMetH Tryz.prog QAm W) (hbs:Base.b≤W.heap.size):KwIn W.heap.size W∧Qmg W.heap.size W∧TzIn W.heap.size W:=by
 rw [MakeChecks.laidMetH_plain _ _ _ (by kernel_rfl)] at h;obtain⟨ps,h,_⟩:=h;obtain⟨g0,t0,cs0,f0,p0,q0,hg0,ht0,hv0,hd0,h,-⟩:=h;obtain⟨g1,t1,cs1,f1,p1,q1,hg1,ht1,hv1,hd1,h,-⟩:=h;obtain⟨g2,t2,cs2,f2,p2,q2,hg2,ht2,hv2,hd2,h,-⟩:=h;obtain rfl:=Option.some.inj (gTz.symm.trans hg0);obtain rfl:=Option.some.inj (gKw.symm.trans hg1);obtain rfl:=Option.some.inj (gEf.symm.trans hg2);obtain rfl:=Option.some.inj (tTz.symm.trans ht0);obtain rfl:=Option.some.inj (tKw.symm.trans ht1);obtain rfl:=Option.some.inj (tEf.symm.trans ht2);rw [d64] at hd0;rw [dEf] at hd2;have e0:=Lib.cells_of_tab Tryz.underlying263 Tryz.underlying5 cU8 cTz hd0;have k0:Lib.TabIs Tryz.prog W "math/bits.deBruijn64tab" .u8 tz64:=by unfold Lib.TabIs;rw [hv0,←e0]
 have ke:∀o k,o<10→k<5→W.cell? ⟨0,o*5+k,none⟩=some (iv (effN o k)):=fun o k ho hk=>by
  have h1:=Qwl Tryz.underlying170 Tryz.underlying169 Tryz.underlying3 cInt c5 cEf hd2 o ((List.range 5).map fun k=>(effN o k:Int)) (by unfold effL;simp [ho]);have h2:=congrArg (·[k]?) h1;simp only [List.getElem?_take,List.getElem?_drop,hk,if_true,List.getElem?_map,List.getElem?_range hk,Option.map_some] at h2;have h3:=World.var?_cell hg2 hv2 (o*5+k);rw [h3]
  simpa using h2
 refine⟨?_,⟨by have:=Qwh (ke 0 0 (by omega) (by omega));omega,hbs,ke⟩,⟨by have:=Qwh (k0.cell gTz 0 (by decide));omega,hbs,fun j hj=>?_⟩⟩;rotate_left
 ·rw [k0.cell gTz j (by unfold tz64;rw [List.length_map];exact hj)]
  congr 2
  unfold tz64;simp [List.getD,hj]
 rcases open_strs Tryz.underlying86 Tryz.underlying9 cStr hd1 with⟨_,hx⟩|⟨a,len,cap,m,Sx,hcs,_,hl1,hl2,hm,hx,hcell⟩
 ·simp [Rows.laid_flowquery_lexer_keywords] at hx
 simp only [Prod.mk.injEq] at hx;have hK:kws.map (fun l=>(DataW.lit (.string l):DataW Unit))=(List.range len).map fun i=>.lit (.string (Sx i).data.toList):=by
  have h1:=hx.1;have h2:(Rows.laid_flowquery_lexer_keywords:DataW Unit)=.slice (kws.map fun l=>.lit (.string l)) []:=rfl;rw [h2] at h1;injection h1 with h1 _
 have hlen:len=11:=by
  have:=congrArg List.length hK;simp at this;rw [←this];rfl
 have hm2:len≤m:=by rw [hm];split <;> omega
 have hc0:W.cell? ⟨2,0,none⟩=some (.slice (some a) len cap):=by
  have:=World.var?_cell hg1 hv1 0;rw [Array.eq_one_of_toList hcs] at this
  simpa using this
 obtain⟨b,off,spot⟩:=a;have h00:=(hcell 0 (by omega)).1;have hspot:spot=none:=by simpa [Addr.add] using World.cell?_spot h00
 subst hspot;subst hlen;refine⟨⟨by have:=Qwh hc0;omega,hbs⟩,b,off,cap,?_,hc0,fun k s hk=>⟨b,off,rfl,?_⟩⟩
 ·rw [add_plain] at h00;exact Qwh h00
 ·have hk2:k<11:=by
   have:=(List.getElem?_eq_some_iff.1 hk).1;exact this
  have h1:=congrArg (·[k]?) hK;simp only [List.getElem?_map,hk,List.getElem?_range hk2,Option.map_some,Option.some.injEq,DataW.lit.injEq,Lit.string.injEq] at h1;have h2:=(hcell k (by omega)).1;rw [add_plain] at h2;rw [h2,h1]
end
end Go.Proofs.YtijekimobahgpaaGreatDoor
namespace Go.Proofs.YtijekimobahgpaaGreatDoor.equationsMonotonic
open Go.ChangeShapes Go.WideShapes Go.ChangeAt Go.WideMaps Go.WideElems Go.ChangeMaps Go.Deep Go.RowKit
theorem Qsu (os:Os) (started:os.Started) (H:Type) (enc:TypeId×Value→H):
  ReturnsInHanded {} Tryz.checked os 7 .any (fun w args=>(Rows.equationsMonotonicSpec.pre enc Tryz.prog Tryz.f7 [] false w args∧laidMetH Tryz.prog QAm w)∧sizedMet enc Tryz.prog Tryz.f7 (OpenSpec.ofChange Rows.equationsMonotonicSpec) false w args)
   (Rows.equationsMonotonicSpec.post enc Tryz.prog Tryz.f7 false true false false):=by
 refine returnsInHanded_of_change_and (C:=Tryz.checked) (X:=fun w _=>laidMetH Tryz.prog QAm w) (fun _ _ _ hh h=>h.of_heap hh) own started (by kernel_rfl) Tryz.func7
  (ChangeSpec.witness_shaped (enc:=enc) (C:=Tryz.checked) (os:=os) (X:=fun w _=>laidMetH Tryz.prog QAm w) false (World.doorLaid Tryz.prog 400 os) #[.slice none 0 0] 8 rfl (World.shaped_of_RefB (by kernel_rfl) (by kernel_rfl)) (by kernel_rfl) (by kernel_rfl) (by kernel_rfl) (QHs os _)) ?_
 intro W base args ds gs before hval0 hW _ _ hL _;have hval:∀(j:Nat) t v,Tryz.f7.params[j]? = some t→args[j]? = some v→Value.okWide Tryz.prog W .any base t v:=hval0;have hW':=hW;have hlt:=hW.lt;obtain⟨p,q,hA0,hV,rfl,hfz,hnd⟩:=hW;have hA:DataW.TrodAll enc Tryz.prog W 0 (fun _=>true) true Tryz.f7.params.toList args.toList ds p:=hA0;rw [Tryz.params7] at hA hval;obtain⟨v0,d0,rfl,rfl,h0⟩:=trodAll_one hA;obtain⟨rfl,rfl⟩:=trodVars_none hV;obtain⟨a0,len0,cap0,rfl⟩:=okWide_slice Tryz.underlying22 (hval 0 22 v0 rfl rfl)
 letI:Base:=⟨W.heap.size⟩
 have K:=Qzt hL (Nat.le_refl _);have keep:∀W':World,Below W.heap.size W W'→Rows.equationsMonotonicSpec.post enc Tryz.prog Tryz.f7 false true false false W #[.slice a0 len0 cap0] (.bool true) W':=by
  intro W' bel;have h0':=Below.trod (P:=Tryz.prog) (by kernel_rfl) (by kernel_rfl) (by decide +kernel) h0 bel (fun x hx=>hlt x (by simp [hx]));exact⟨_,_,_,[],_,[],hW',trodAll_mk1 (shut_bool Tryz.underlying4 _),trodAll_mk1 h0',rfl,bel.frame _,fun h=>by cases h⟩
 obtain⟨fuel,hf⟩:=h0;rcases open_ints Tryz.underlying22 Tryz.underlying3 cInt hf with⟨hcs,_⟩|⟨a,len,cap,zs,hcs,_,hl1,hl2,hz,_,hcell,_⟩
 ·have hcs':[Value.slice a0 len0 cap0]=_:=hcs;injection hcs' with hcs' _
  injection hcs' with e1 e2 e3
  subst e1 e2 e3;refine(Qvi W none 0 0 (Nat.zero_le _) (fun j hj=>by omega) K.1 K.2.1 K.2.2 (Nat.le_refl _)).mono fun e W' ⟨he,bel⟩=>?_
  subst he;exact⟨_,rfl,keep W' bel⟩
 ·have hcs':[Value.slice a0 len0 cap0]=_:=hcs;injection hcs' with hcs' _
  injection hcs' with e1 e2 e3
  subst e1 e2 e3;refine(Qvi W (some a) len0 cap0 (by omega) (fun j hj=>?_) K.1 K.2.1 K.2.2 (Nat.le_refl _)).mono fun e W' ⟨he,bel⟩=>?_
  ·have hlz:len0≤zs.length:=by rw [hz];split <;> omega
   obtain⟨b,off,rfl,hc⟩:=ints_at hcell (by omega);exact⟨b,off,_,rfl,Qwh (hc j (by omega)),hc j (by omega)⟩
  ·subst he;exact⟨_,rfl,keep W' bel⟩
theorem over:Rows.EquationsMonotonicSaid:=
 OpenClaim.holds_of_wide 7 Tryz.f7 rfl rfl rfl rfl rfl rfl rfl ⟨rfl,rfl,rfl,rfl,rfl⟩ rfl rfl rfl rfl rfl (by kernel_rfl) Tryz.func7 (by kernel_rfl)
  (of_decide_eq_true (by kernel_rfl)) (by unfold Func.isWrapper;first|(rw [if_pos (by decide +kernel)];kernel_rfl)|(rw [if_neg (by decide +kernel)];exact⟨rfl,rfl⟩))
  (fun os started H enc _=>Qsu os started H enc)
end Go.Proofs.YtijekimobahgpaaGreatDoor.equationsMonotonic
namespace Go.Proofs.YtijekimobahgpaaGreatDoor
open Go
theorem equationsMonotonic_card_holds:Rows.EquationsMonotonicCardSaid:=
 Claim7.holds_tied_plain_at .later [] [.data,.widerDeep,.data] true Rows.equationsMonotonicCard.stood.harness false
  equationsMonotonic.over (fun _ h=>by cases h) (by kernel_rfl) (fun _ h=>by cases h) equationsMonotonic_row_tie rfl ⟨rfl,rfl⟩ (by kernel_rfl) rfl
  (fun f fn hf hfn=>by
   obtain rfl:f=7:=Option.some.inj ((show Tryz.prog.funcNamed "flowquery/flqlaw10.EquationsMonotonic" = some 7 by kernel_rfl).symm.trans hf) |>.symm
   obtain rfl:fn=Tryz.f7:=(Option.some.inj (Tryz.func7.symm.trans hfn)).symm
   exact⟨by kernel_rfl,fun j t ht=>by
    rw [Tryz.params7] at ht
    rcases j with _|j
    ·obtain rfl:t=22:=by simpa using ht.symm
     exact(show Tryz.prog.wantsStandIn 22=false by kernel_rfl)
    ·simp at ht⟩)
  (by kernel_rfl)
#print axioms equationsMonotonic_card_holds
end Go.Proofs.YtijekimobahgpaaGreatDoor
