/- Packed. -/
import Derived.Test.YtbcmabolkkfgfaaGreatDoorQ22
set_option maxRecDepth 100000
set_option maxHeartbeats 8000000
open Go.Value renaming int → I
open Go.IntKind renaming i64 → O
namespace Go.Proofs.YtbcmabolkkfgfaaGreatDoor
open Go.RowKit Te Sc
def Yes (w:World) (e:Ending) (w' : World):Prop:=e = .returned (.bool true)∧Below w.heap.size w w'
theorem ss_one {B d:Nat}{W:World}{r:RSx}{s:Sch}(sv:SV (NewQ B) W d r s)(hB:B≤W.heap.size)(T:TypeId):SsAt (NewQ B) (W.alloc (.cells (sCells r).toArray T)) d (some ⟨W.heap.size,0,none⟩) [s]:=by
 have hA:Below W.heap.size W (W.alloc (.cells (sCells r).toArray T)):=(brf _ _).alloc mle _;refine⟨⟨[r],rfl,Recs.lit (S:=SSc) W T [r] (by show 1≤_;unfold maxLen;omega),fun k a b=>?_⟩,fun a e => .inr (by cases e;exact hB)⟩
 match k,a with
 | 0,_=>exact sv.below hA
def awS:Sch:=⟨0,⟨#[98,97,115,105,99]⟩,.mk 1 0 0 [], [⟨1000,200⟩,⟨3000,100⟩],0,0,false⟩
def awR (b:Nat):RSx:=⟨0,⟨#[98,97,115,105,99]⟩,⟨1,0,0,none,0,0⟩,some ⟨b,0,none⟩,2,2,0,0,false⟩
theorem aw_amt:(amtV awS 2000,amtE awS 2000)=(3000,0):=by kernel_rfl
theorem aw_chk:chk17 [awS]=(-1,0):=by kernel_rfl
theorem aw_text:prT17 [awS]=(⟨#[115,99,104,101,109,101,32,48,32,98,97,115,105,99,32,48,10,105,102,32,116,114,117,101,10,114,97,116,101,32,49,48,48,48,32,50,48,48,10,114,97,116,101,32,51,48,48,48,32,49,48,48,10]⟩:ByteArray).data.toList:=by kernel_rfl
theorem aw_parse:parse17 (⟨#[115,99,104,101,109,101,32,48,32,98,97,115,105,99,32,48,10,105,102,32,116,114,117,101,10,114,97,116,101,32,49,48,48,48,32,50,48,48,10,114,97,116,101,32,51,48,48,48,32,49,48,48,10]⟩:ByteArray).data.toList=([awS],0,0):=by kernel_rfl
theorem aw_sv (w:World)(T:TypeId):SV (NewQ w.heap.size) (w.alloc (.cells #[I O 1000,I O 200,I O 3000,I O 100] T)) 0 (awR w.heap.size) awS:=by
 have h:=Recs.lit (S:=SBk) w T [⟨1000,200⟩,⟨3000,100⟩] (by show 2≤_;unfold maxLen;omega);exact⟨rfl,rfl,⟨⟨rfl,rfl,rfl,rfl,Nat.le_refl _,fun _=>rfl⟩,TmsAt.nil _ _ _ _⟩,h,rfl,Nat.le_refl _,fun e=>(by cases e),fun a e => .inr (by cases e;exact Nat.le_refl _),rfl,rfl,rfl⟩
theorem awake17_any (w:World)(hE:Env w):Calls Tryz.prog 4 #[] w (Yes w):=by
 have HE:=mh hE;have hA1:Below w.heap.size w (w.alloc (.cells #[I O 1000,I O 200,I O 3000,I O 100] 54)):=(brf _ _).alloc mle _;obtain⟨W1,eW1⟩:∃W:World,(w.alloc (.cells #[I O 1000,I O 200,I O 3000,I O 100] 54)).alloc (.cells #[I O 0,.string ⟨#[98,97,115,105,99]⟩,I O 1,I O 0,I O 0,.slice none 0 0,.slice (some ⟨w.heap.size,0,none⟩) 2 2,I O 0,I O 0,.bool false] 31)=W:=⟨_,rfl⟩;have hA2:=balloc mle (brf (w.alloc (.cells #[I O 1000,I O 200,I O 3000,I O 100] 54)).heap.size (w.alloc (.cells #[I O 1000,I O 200,I O 3000,I O 100] 54))) (.cells #[I O 0,.string ⟨#[98,97,115,105,99]⟩,I O 1,I O 0,I O 0,.slice none 0 0,.slice (some ⟨w.heap.size,0,none⟩) 2 2,I O 0,I O 0,.bool false] 31);have SV1:=mh (show SV (NewQ w.heap.size) W1 0 (awR w.heap.size) awS from by rw[← eW1];exact(aw_sv w 54).below hA2);have B1:=mh (show Below w.heap.size w W1 from by rw[← eW1];exact bstep mle hA1 hA2)
 have SC1:=mh (show SCells W1 (w.heap.size+1) 0 (awR w.heap.size) from by
  rw[← eW1];have:=SCells.box (w.alloc (.cells #[I O 1000,I O 200,I O 3000,I O 100] 54)) (awR w.heap.size) 31;rw[World.size_alloc]at this
  exact this)
 have L1:=mh (show w.heap.size+1<W1.heap.size by rw[← eW1];simp);have EW:=mh eW1;clear hE hA1 hA2 eW1
 go_enter Tryz.func4,Tryz.ntmps4
 go_wp2_with fail
 rw[EW.out];have AM:=mh (amount17_any 0 (awR w.heap.size) awS 2000 W1 SV1.out (by show 5≤_;omega));rw[aw_amt]at AM;unfold ChkG at AM;simp only[awR]at AM;(with_reducible refine cmo AM.out ?_);rintro e w2 ⟨rfl,hb2⟩;have B2:=mh (bstep mle B1.out hb2);have SV2:=mh (SV1.out.below hb2);obtain⟨c0,c1,c2,c3,c4,c5,c6,c7,c8,c9⟩:=SC1.out.below hb2 L1.out;simp only[Nat.zero_add,awR]at c0 c1 c2 c3 c4 c5 c6 c7 c8 c9;have L2:=mh (nll L1.out hb2.size);have SC2:=mh (SC1.out.below hb2 L1.out);clear hb2
 go_wp2_with fail
 have hA3:=balloc mle (brf w2.heap.size w2) (.cells #[I O 0,.string ⟨#[98,97,115,105,99]⟩,I O 1,I O 0,I O 0,.slice none 0 0,.slice (some ⟨w.heap.size,0,none⟩) 2 2,I O 0,I O 0,.bool false] 31);have PR:=mh (print17_any 0 (some ⟨w2.heap.size,0,none⟩) [awS] 1 _ (ss_one SV2.out B2.out.size 31) (fun s hs=>by obtain rfl:=List.mem_singleton.1 hs;show 5≤_;omega) mle ((HE.out.below B2.out).below hA3));unfold PrintG17 at PR;rw[aw_text,aw_chk,show [awS].length=1 from rfl]at PR;have PR:=mh (show Calls Tryz.prog 11 #[.slice (some ⟨w2.heap.size,0,none⟩) 1 1] (w2.alloc (.cells #[I O 0,.string ⟨#[98,97,115,105,99]⟩,I O 1,I O 0,I O 0,.slice none 0 0,.slice (some ⟨w.heap.size,0,none⟩) 2 2,I O 0,I O 0,.bool false] 31)) (fun e w' => e = .returned (.tuple #[.string ⟨#[115,99,104,101,109,101,32,48,32,98,97,115,105,99,32,48,10,105,102,32,116,114,117,101,10,114,97,116,101,32,49,48,48,48,32,50,48,48,10,114,97,116,101,32,51,48,48,48,32,49,48,48,10]⟩,I O 0])∧Below (w2.alloc (.cells #[I O 0,.string ⟨#[98,97,115,105,99]⟩,I O 1,I O 0,I O 0,.slice none 0 0,.slice (some ⟨w.heap.size,0,none⟩) 2 2,I O 0,I O 0,.bool false] 31)).heap.size (w2.alloc (.cells #[I O 0,.string ⟨#[98,97,115,105,99]⟩,I O 1,I O 0,I O 0,.slice none 0 0,.slice (some ⟨w.heap.size,0,none⟩) 2 2,I O 0,I O 0,.bool false] 31)) w') from PR.out);(with_reducible refine cmo PR.out ?_);rintro e w3 ⟨rfl,hb3⟩;have hb23:=bstep mle hA3 hb3;have B3:=mh (bstep mle B2.out hb23);have SV3:=mh (SV2.out.below hb23);have SC3:=mh (SC2.out.below hb23 L2.out);have L3:=mh (nll L2.out hb23.size);clear hb3 hb23 hA3 c0 c1 c2 c3 c4 c5 c6 c7 c8 c9
 go_wp2_with fail
 have PA:=mh (parse17_any ⟨#[115,99,104,101,109,101,32,48,32,98,97,115,105,99,32,48,10,105,102,32,116,114,117,101,10,114,97,116,101,32,49,48,48,48,32,50,48,48,10,114,97,116,101,32,51,48,48,48,32,49,48,48,10]⟩ w3 (HE.out.below B3.out) (by show 53≤_;omega));rw[aw_parse]at PA;(with_reducible refine cmo PA.out ?_);rintro e w4 ⟨p4,c4,d4,rfl,hss,hlc,hb4⟩;have B4:=mh (bstep mle B3.out hb4);have SV4:=mh (SV3.out.below hb4);have HS:=mh hss;obtain⟨c0,c1,c2,c3,c4', c5,c6,c7,c8,c9⟩:=SC3.out.below hb4 L3.out;simp only[Nat.zero_add,awR]at c0 c1 c2 c3 c4' c5 c6 c7 c8 c9;clear hb4 hss hlc;rw[show([awS],(0:Int),(0:Int)).1.length=1 from rfl]
 go_wp2_with fail
 have hA5:=balloc mle (brf w4.heap.size w4) (.cells #[I O 0,.string ⟨#[98,97,115,105,99]⟩,I O 1,I O 0,I O 0,.slice none 0 0,.slice (some ⟨w.heap.size,0,none⟩) 2 2,I O 0,I O 0,.bool false] 31);have SM:=mh (same17_any d4 0 p4 (some ⟨w4.heap.size,0,none⟩) [awS] 1 c4 1 _ rfl (HS.out.below hA5) (ss_one SV4.out B4.out.size 31));unfold BoolG at SM;(with_reducible refine cmo SM.out ?_);rintro e w5 ⟨rfl,hb5⟩;have HF:=mh (bstep mle B4.out (bstep mle hA5 hb5));clear hb5 hA5
 go_wp2
 go_ret
 exact⟨rfl,HF.out⟩
def putL (W:World) (b:Nat):Nat→List Value→World
 | _, []=>W
 | i,x::r=>putL (W.setCell ⟨b,i,none⟩ x) b (i+1) r
theorem putL_below (b:Nat){B:Nat}(hB:B≤b):∀(xs:List Value) {w W:World} (i:Nat),Below B w W→Below B w (putL W b i xs)
 | [],_,_,_,h=>h
 | x::r,w,W,i,h=>by rw[putL];exact putL_below b hB r (i+1) (h.setCell hB _)
theorem putL_past (b:Nat):∀(xs:List Value) (W:World) (i j:Nat) {u:Value},j<i→W.cell? ⟨b,j,none⟩=some u→(putL W b i xs).cell? ⟨b,j,none⟩=some u
 | [],_,_,_,_,_,h=>h
 | x::r,W,i,j,u,hj,h=>by
   rw[putL];exact putL_past b r _ (i+1) j (by omega) ((World.cell?_setCell_other _ _ _ _ (fun e=>by injection e with _ e;omega)).trans h)
theorem putL_at (b:Nat):∀(xs:List Value) (W:World) (i:Nat),(∀j,i≤j→j<i+xs.length→∃u,W.cell? ⟨b,j,none⟩=some u)→∀j x,xs[j]?=some x→(putL W b i xs).cell? ⟨b,i+j,none⟩=some x
 | [],_,_,_,j,x,h=>by simp at h
 | x::r,W,i,hc,j,y,h=>by
   rw[putL];obtain⟨u,hu⟩:=hc i mle (by simp)
   cases j with
   | zero =>
     rw[List.getElem?_cons_zero]at h
     injection h with h
     subst h;exact putL_past b r _ (i+1) i (by omega) (World.cell?_setCell_same _ _ _ hu)
   | succ j =>
     rw[List.getElem?_cons_succ]at h
     have:=putL_at b r (W.setCell ⟨b,i,none⟩ x) (i+1) (fun k hk hk2=>by
      obtain⟨u2,hu2⟩:=hc k (by omega) (by rw[List.length_cons];omega)
      exact⟨u2,(World.cell?_setCell_other _ _ _ _ (fun e=>by injection e with _ e;omega)).trans hu2⟩) j y h
     rw[show i+(j+1)=i+1+j by omega];exact this
theorem put10 {W:World}{b:Nat}(x0 x1 x2 x3 x4 x5 x6 x7 x8 x9:Value)(hc:∀j,j<10→∃u,W.cell? ⟨b,j,none⟩=some u) :
  ∀i u,(#[x0,x1,x2,x3,x4,x5,x6,x7,x8,x9]:Array Value)[i]?=some u→(putL W b 0 [x0,x1,x2,x3,x4,x5,x6,x7,x8,x9]).cell? ⟨b,i,none⟩=some u:=fun i u hu=>by
 have:=putL_at b [x0,x1,x2,x3,x4,x5,x6,x7,x8,x9] W 0 (fun j _ hj=>hc j (by simpa using hj)) i u (by simpa using hu)
 rwa [Nat.zero_add]at this
def RefHeadG (ws:List (List UInt8)) (w:World) (e:Ending) (w' : World):Prop:=∃row:RSx,e = .returned (.tuple #[.agg (sCells row).toArray,.bool (headR ws).isSome])∧(∀s,headR ws=some s→s=schF row.num row.nm row.least row.needs∧row=rowF row.num row.nm row.least row.needs)∧Below w.heap.size w w'
theorem RefHeadG.bad {ws:List (List UInt8)}{w w' : World}(h:headR ws=none)(hb:Below w.heap.size w w'):RefHeadG ws w (.returned (.tuple #[.agg #[I O 0,.string ⟨#[]⟩,I O 0,I O 0,I O 0,.slice none 0 0,.slice none 0 0,I O 0,I O 0,.bool false],.bool false])) w' :=
 ⟨rowF 0 ⟨#[]⟩ 0 false,by rw[h];rfl,fun s e=>(by rw[h]at e;cases e),hb⟩
theorem RefHeadG.odd {ws:List (List UInt8)}{w w' : World}(num:Int)(nm:ByteArray)(least:Int)(needs:Bool)(h:headR ws=none)(hb:Below w.heap.size w w'):RefHeadG ws w (.returned (.tuple #[.agg #[I O num,.string nm,I O 0,I O 0,I O 0,.slice none 0 0,.slice none 0 0,I O least,I O 0,.bool needs],.bool false])) w' :=
 ⟨rowF num nm least needs,by rw[h];rfl,fun s e=>(by rw[h]at e;cases e),hb⟩
theorem RefHeadG.good {ws:List (List UInt8)}{w w' : World}{num:Int}{nm:ByteArray}{least:Int}{needs:Bool}(h:headR ws=some (schF num nm least needs))(hb:Below w.heap.size w w'):RefHeadG ws w (.returned (.tuple #[.agg #[I O num,.string nm,I O 0,I O 0,I O 0,.slice none 0 0,.slice none 0 0,I O least,I O 0,.bool needs],.bool true])) w' :=
 ⟨rowF num nm least needs,by rw[h];rfl,fun s e=>(by rw[h]at e;injection e with e;exact⟨e.symm,rfl⟩),hb⟩
theorem headR_len {ws:List (List UInt8)}(h3:ws.length≠3)(h4:ws.length≠4):headR ws=none:=by
 unfold headR
 split
 ·rename_i a nm b r2
  rw[if_neg];rintro (rfl|rfl)
  ·exact h3 rfl
  ·exact h4 rfl
 ·rfl
theorem headR_ent {a nm b e:List UInt8}(h:e≠wEnt):headR [a,nm,b,e]=none:=by
 unfold headR;simp only;rw[if_neg];rintro (h1|h1)
 ·cases h1
 ·injection h1 with h1;exact h h1
theorem headR_go {a nm b:List UInt8}{r:List (List UInt8)}(h:r = []∨r = [wEnt]):headR (a::nm::b::r)=if Wo.nameB nm=true∧Wo.numB a 0 15=true∧Wo.numB b 0 268435456=true then some (schF (Wo.numV a 0 15) ⟨nm.toArray⟩ (Wo.numV b 0 268435456) (decide (r = [wEnt]))) else none:=by
 have:=headP_go (a:=a) (nm:=nm) (b:=b) h;unfold headP at this;simp only at this;rw[if_pos trivial]at this;exact this
theorem box10 (w:World):∀j,j<10→∃u,(w.alloc (.cells #[I O 0,.string ⟨#[]⟩,I O 0,I O 0,I O 0,.slice none 0 0,.slice none 0 0,I O 0,I O 0,.bool false] 31)).cell? ⟨w.heap.size,j,none⟩=some u:=fun j hj=>by
 rw[cwn];have:j<(#[I O 0,.string ⟨#[]⟩,I O 0,I O 0,I O 0,.slice none 0 0,.slice none 0 0,I O 0,I O 0,.bool false]:Array Value).size:=hj;exact⟨_,Array.getElem?_eq_getElem this⟩
theorem refhead3_any (q:Option Addr)(a nm b:ByteArray)(c:Nat)(w:World)(h:Recs SB w q [a,nm,b])(hz:∀y ∈ [a,nm,b],y.size≤16384) :
  Calls Tryz.prog 44 #[.slice q 3 c] w (RefHeadG (ll [a,nm,b]) w):=by
 obtain⟨B,Ox,rfl,hBl,g0⟩:=h.word (j:=0) (by simp);obtain⟨B1,O1,e1, -,g1⟩:=h.word (j:=1) (by simp)
 cases e1
 obtain⟨B2,O2,e2, -,g2⟩:=h.word (j:=2) (by simp)
 cases e2
 simp only[List.getElem_cons_zero,List.getElem_cons_succ,Nat.add_zero]at g0 g1 g2;have hnz:=hz nm (by simp);have haz:=hz a (by simp);have hbz:=hz b (by simp)
 show Calls _ _ _ _ (RefHeadG [a.data.toList,nm.data.toList,b.data.toList] w)
 have HBX:=mh (box10 w);have hW1:Below w.heap.size w (w.alloc (.cells #[I O 0,.string ⟨#[]⟩,I O 0,I O 0,I O 0,.slice none 0 0,.slice none 0 0,I O 0,I O 0,.bool false] 31)):=(brf _ _).alloc mle _;have HW1:=mh hW1;have hgo:=headR_go (a:=a.data.toList) (nm:=nm.data.toList) (b:=b.data.toList) (r := []) (.inl rfl);have NM:=mh (show ∀W,Calls Tryz.prog 52 #[.string nm] W (fun e w' => e = .returned (.bool (Wo.nameB nm.data.toList))∧W=w') from fun W=>refname_any nm W (by omega));have NU1:=mh (fun (W:World)=>show Calls Tryz.prog 46 #[.string a,I O 15] W (fun e w' => e = .returned (.tuple #[I O (Wo.numV a.data.toList 0 15),.bool (Wo.numB a.data.toList 0 15)])∧Below W.heap.size W w') from refnumber17_any a 15 W (by omega));have NU2:=mh (fun (W:World)=>show Calls Tryz.prog 46 #[.string b,I O 268435456] W (fun e w' => e = .returned (.tuple #[I O (Wo.numV b.data.toList 0 268435456),.bool (Wo.numB b.data.toList 0 268435456)])∧Below W.heap.size W w') from refnumber17_any b 268435456 W (by omega));obtain⟨nb,enb⟩:∃z,Wo.nameB nm.data.toList=z:=⟨_,rfl⟩;obtain⟨k1,ek1⟩:∃z,Wo.numB a.data.toList 0 15=z:=⟨_,rfl⟩;obtain⟨k2,ek2⟩:∃z,Wo.numB b.data.toList 0 268435456=z:=⟨_,rfl⟩;obtain⟨v1,ev1⟩:∃z,Wo.numV a.data.toList 0 15=z:=⟨_,rfl⟩;obtain⟨v2,ev2⟩:∃z,Wo.numV b.data.toList 0 268435456=z:=⟨_,rfl⟩;rw[enb]at NM;rw[ek1,ev1]at NU1;rw[ek2,ev2]at NU2;rw[enb,ek1,ek2,ev1,ev2]at hgo;have hb0:=(hW1.cell (p:=⟨B,Ox,none⟩) hBl).trans g0;have hb1:=(hW1.cell (p:=⟨B,Ox+1,none⟩) hBl).trans g1;have hb2:=(hW1.cell (p:=⟨B,Ox+2,none⟩) hBl).trans g2;have H1:=mh hb1;have H2:=mh hb2;clear h hz enb ek1 ek2 ev1 ev2
 cases nb
 ·rw[if_neg (by simp)]at hgo
  have HF:=mh (fun (w' : World) (hb:Below w.heap.size w w')=>RefHeadG.bad hgo hb);clear hgo
  go_enter Tryz.func44,Tryz.ntmps44
  go_wp2_with (first|(go_at_call 52;(with_reducible refine cmo (NM.out _) ?_);rintro e w1 ⟨rfl,rfl⟩))
  obtain⟨WF,eWF⟩:∃W:World,w.alloc (.cells #[I O 0,.string ⟨#[]⟩,I O 0,I O 0,I O 0,.slice none 0 0,.slice none 0 0,I O 0,I O 0,.bool false] 31)=W:=⟨_,rfl⟩;have QQ:∀i,WF.cell? ⟨w.heap.size,i,none⟩=(#[I O 0,.string ⟨#[]⟩,I O 0,I O 0,I O 0,.slice none 0 0,.slice none 0 0,I O 0,I O 0,.bool false]:Array Value)[i]?:=fun i=>by rw[← eWF];exact cwn _ _ _ i
  have FIN:=mh (show Below w.heap.size w WF from eWF▸(brf w.heap.size w).alloc mle _);rw[eWF];obtain⟨q0,q1,q2,q3,q4,q5,q6,q7,q8,q9⟩:=(⟨QQ 0,QQ 1,QQ 2,QQ 3,QQ 4,QQ 5,QQ 6,QQ 7,QQ 8,QQ 9⟩:WF.cell? ⟨w.heap.size,0,none⟩=some (I O 0)∧WF.cell? ⟨w.heap.size,1,none⟩=some (.string ⟨#[]⟩)∧WF.cell? ⟨w.heap.size,2,none⟩=some (I O 0)∧WF.cell? ⟨w.heap.size,3,none⟩=some (I O 0)∧WF.cell? ⟨w.heap.size,4,none⟩=some (I O 0)∧WF.cell? ⟨w.heap.size,5,none⟩=some (.slice none 0 0)∧WF.cell? ⟨w.heap.size,6,none⟩=some (.slice none 0 0)∧WF.cell? ⟨w.heap.size,7,none⟩=some (I O 0)∧WF.cell? ⟨w.heap.size,8,none⟩=some (I O 0)∧WF.cell? ⟨w.heap.size,9,none⟩=some (.bool false));clear eWF QQ;exact bodyPost_ret (v := .tuple #[.agg #[I O 0,.string ⟨#[]⟩,I O 0,I O 0,I O 0,.slice none 0 0,.slice none 0 0,I O 0,I O 0,.bool false],.bool false]) (by simp[results,Tryz.results44,go_sem,q0,q1,q2,q3,q4,q5,q6,q7,q8,q9]) rfl (HF.out _ FIN.out)
 have HS1:=mh (show w.heap.size<(w.alloc (.cells #[I O 0,.string ⟨#[]⟩,I O 0,I O 0,I O 0,.slice none 0 0,.slice none 0 0,I O 0,I O 0,.bool false] 31)).heap.size by simp)
 cases k1
 ·rw[if_neg (by simp)]at hgo
  have HF:=mh (fun (w' : World) (hb:Below w.heap.size w w')=>RefHeadG.odd v1 nm v2 false hgo hb);clear hgo
  cases k2
  all_goals
   go_enter Tryz.func44,Tryz.ntmps44
   go_wp2_with (first|(go_at_call 52;(with_reducible refine cmo (NM.out _) ?_);rintro e w1 ⟨rfl,rfl⟩)|(go_at_call 46;(with_reducible refine cmo (NU1.out _) ?_);rintro e w2 ⟨rfl,hc2⟩;have HB2:=mh (bstep mle HW1.out hc2);have m1:=(HB2.out.cell (p:=⟨B,Ox+1,none⟩) hBl).trans g1;have m2:=(HB2.out.cell (p:=⟨B,Ox+2,none⟩) hBl).trans g2;have X2:=mh hc2;clear hc2)|(go_at_call 46;(with_reducible refine cmo (NU2.out _) ?_);rintro e w3 ⟨rfl,hc3⟩;have HB3:=mh (bstep mle HB2.out hc3);have n1:=(HB3.out.cell (p:=⟨B,Ox+1,none⟩) hBl).trans g1;have X3:=mh (bstep mle X2.out hc3);have CX:=mh (fun j (hj:j<10)=>show ∃u,w3.cell? ⟨w.heap.size,j,none⟩=some u from by obtain⟨u,hu⟩:=HBX.out j hj;exact⟨u,(X3.out.cell (p:=⟨w.heap.size,j,none⟩) HS1.out).trans hu⟩);have FX:=mh (fun j=>show w3.frozen? ⟨w.heap.size,j,none⟩=false from(X3.out.frozen (p:=⟨w.heap.size,j,none⟩) HS1.out).trans (by simp));have z0:=FX.out 0;have z1:=FX.out 1;have z2:=FX.out 2;have z3:=FX.out 3;have z4:=FX.out 4;have z5:=FX.out 5;have z6:=FX.out 6;have z7:=FX.out 7;have z8:=FX.out 8;have z9:=FX.out 9;obtain⟨y0,t0⟩:=CX.out 0 (by omega);obtain⟨y1,t1⟩:=CX.out 1 (by omega);obtain⟨y2,t2⟩:=CX.out 2 (by omega);obtain⟨y3,t3⟩:=CX.out 3 (by omega);obtain⟨y4,t4⟩:=CX.out 4 (by omega);obtain⟨y5,t5⟩:=CX.out 5 (by omega);obtain⟨y6,t6⟩:=CX.out 6 (by omega);obtain⟨y7,t7⟩:=CX.out 7 (by omega);obtain⟨y8,t8⟩:=CX.out 8 (by omega);obtain⟨y9,t9⟩:=CX.out 9 (by omega);clear hc3))
   have QQ:=put10 (W:=w3) (b:=w.heap.size) (I O v1) (.string nm) (I O 0) (I O 0) (I O 0) (.slice none 0 0) (.slice none 0 0) (I O v2) (I O 0) (.bool false) CX.out;have FIN:=mh (putL_below w.heap.size mle [I O v1,.string nm,I O 0,I O 0,I O 0,.slice none 0 0,.slice none 0 0,I O v2,I O 0,.bool false] (W:=w3) 0 HB3.out);obtain⟨WF,eWF⟩:∃W:World,putL w3 w.heap.size 0 [I O v1,.string nm,I O 0,I O 0,I O 0,.slice none 0 0,.slice none 0 0,I O v2,I O 0,.bool false]=W:=⟨_,rfl⟩;rw[eWF]at QQ FIN;simp only[putL,Nat.reduceAdd]at eWF;rw[eWF];obtain⟨q0,q1,q2,q3,q4,q5,q6,q7,q8,q9⟩:=(⟨QQ 0 _ rfl,QQ 1 _ rfl,QQ 2 _ rfl,QQ 3 _ rfl,QQ 4 _ rfl,QQ 5 _ rfl,QQ 6 _ rfl,QQ 7 _ rfl,QQ 8 _ rfl,QQ 9 _ rfl⟩:_∧_∧_∧_∧_∧_∧_∧_∧_∧_);clear t0 t1 t2 t3 t4 t5 t6 t7 t8 t9;exact bodyPost_ret (v := .tuple #[.agg #[I O v1,.string nm,I O 0,I O 0,I O 0,.slice none 0 0,.slice none 0 0,I O v2,I O 0,.bool false],.bool false]) (by simp[results,Tryz.results44,go_sem,q0,q1,q2,q3,q4,q5,q6,q7,q8,q9]) rfl (HF.out _ FIN.out)
 cases k2
 ·rw[if_neg (by simp)]at hgo
  have HF:=mh (fun (w' : World) (hb:Below w.heap.size w w')=>RefHeadG.odd v1 nm v2 false hgo hb);clear hgo
  go_enter Tryz.func44,Tryz.ntmps44
  go_wp2_with (first|(go_at_call 52;(with_reducible refine cmo (NM.out _) ?_);rintro e w1 ⟨rfl,rfl⟩)|(go_at_call 46;(with_reducible refine cmo (NU1.out _) ?_);rintro e w2 ⟨rfl,hc2⟩;have HB2:=mh (bstep mle HW1.out hc2);have m1:=(HB2.out.cell (p:=⟨B,Ox+1,none⟩) hBl).trans g1;have m2:=(HB2.out.cell (p:=⟨B,Ox+2,none⟩) hBl).trans g2;have X2:=mh hc2;clear hc2)|(go_at_call 46;(with_reducible refine cmo (NU2.out _) ?_);rintro e w3 ⟨rfl,hc3⟩;have HB3:=mh (bstep mle HB2.out hc3);have n1:=(HB3.out.cell (p:=⟨B,Ox+1,none⟩) hBl).trans g1;have X3:=mh (bstep mle X2.out hc3);have CX:=mh (fun j (hj:j<10)=>show ∃u,w3.cell? ⟨w.heap.size,j,none⟩=some u from by obtain⟨u,hu⟩:=HBX.out j hj;exact⟨u,(X3.out.cell (p:=⟨w.heap.size,j,none⟩) HS1.out).trans hu⟩);have FX:=mh (fun j=>show w3.frozen? ⟨w.heap.size,j,none⟩=false from(X3.out.frozen (p:=⟨w.heap.size,j,none⟩) HS1.out).trans (by simp));have z0:=FX.out 0;have z1:=FX.out 1;have z2:=FX.out 2;have z3:=FX.out 3;have z4:=FX.out 4;have z5:=FX.out 5;have z6:=FX.out 6;have z7:=FX.out 7;have z8:=FX.out 8;have z9:=FX.out 9;obtain⟨y0,t0⟩:=CX.out 0 (by omega);obtain⟨y1,t1⟩:=CX.out 1 (by omega);obtain⟨y2,t2⟩:=CX.out 2 (by omega);obtain⟨y3,t3⟩:=CX.out 3 (by omega);obtain⟨y4,t4⟩:=CX.out 4 (by omega);obtain⟨y5,t5⟩:=CX.out 5 (by omega);obtain⟨y6,t6⟩:=CX.out 6 (by omega);obtain⟨y7,t7⟩:=CX.out 7 (by omega);obtain⟨y8,t8⟩:=CX.out 8 (by omega);obtain⟨y9,t9⟩:=CX.out 9 (by omega);clear hc3))
  have QQ:=put10 (W:=w3) (b:=w.heap.size) (I O v1) (.string nm) (I O 0) (I O 0) (I O 0) (.slice none 0 0) (.slice none 0 0) (I O v2) (I O 0) (.bool false) CX.out;have FIN:=mh (putL_below w.heap.size mle [I O v1,.string nm,I O 0,I O 0,I O 0,.slice none 0 0,.slice none 0 0,I O v2,I O 0,.bool false] (W:=w3) 0 HB3.out);obtain⟨WF,eWF⟩:∃W:World,putL w3 w.heap.size 0 [I O v1,.string nm,I O 0,I O 0,I O 0,.slice none 0 0,.slice none 0 0,I O v2,I O 0,.bool false]=W:=⟨_,rfl⟩;rw[eWF]at QQ FIN;simp only[putL,Nat.reduceAdd]at eWF;rw[eWF];obtain⟨q0,q1,q2,q3,q4,q5,q6,q7,q8,q9⟩:=(⟨QQ 0 _ rfl,QQ 1 _ rfl,QQ 2 _ rfl,QQ 3 _ rfl,QQ 4 _ rfl,QQ 5 _ rfl,QQ 6 _ rfl,QQ 7 _ rfl,QQ 8 _ rfl,QQ 9 _ rfl⟩:_∧_∧_∧_∧_∧_∧_∧_∧_∧_);clear t0 t1 t2 t3 t4 t5 t6 t7 t8 t9;exact bodyPost_ret (v := .tuple #[.agg #[I O v1,.string nm,I O 0,I O 0,I O 0,.slice none 0 0,.slice none 0 0,I O v2,I O 0,.bool false],.bool false]) (by simp[results,Tryz.results44,go_sem,q0,q1,q2,q3,q4,q5,q6,q7,q8,q9]) rfl (HF.out _ FIN.out)
 rw[if_pos ⟨rfl,rfl,rfl⟩]at hgo;have HF:=mh (fun (w' : World) (hb:Below w.heap.size w w')=>RefHeadG.good (num:=v1) (nm:=nm) (least:=v2) (needs:=false) (hgo.trans (by simp)) hb);clear hgo
 go_enter Tryz.func44,Tryz.ntmps44
 go_wp2_with (first|(go_at_call 52;(with_reducible refine cmo (NM.out _) ?_);rintro e w1 ⟨rfl,rfl⟩)|(go_at_call 46;(with_reducible refine cmo (NU1.out _) ?_);rintro e w2 ⟨rfl,hc2⟩;have HB2:=mh (bstep mle HW1.out hc2);have m1:=(HB2.out.cell (p:=⟨B,Ox+1,none⟩) hBl).trans g1;have m2:=(HB2.out.cell (p:=⟨B,Ox+2,none⟩) hBl).trans g2;have X2:=mh hc2;clear hc2)|(go_at_call 46;(with_reducible refine cmo (NU2.out _) ?_);rintro e w3 ⟨rfl,hc3⟩;have HB3:=mh (bstep mle HB2.out hc3);have n1:=(HB3.out.cell (p:=⟨B,Ox+1,none⟩) hBl).trans g1;have X3:=mh (bstep mle X2.out hc3);have CX:=mh (fun j (hj:j<10)=>show ∃u,w3.cell? ⟨w.heap.size,j,none⟩=some u from by obtain⟨u,hu⟩:=HBX.out j hj;exact⟨u,(X3.out.cell (p:=⟨w.heap.size,j,none⟩) HS1.out).trans hu⟩);have FX:=mh (fun j=>show w3.frozen? ⟨w.heap.size,j,none⟩=false from(X3.out.frozen (p:=⟨w.heap.size,j,none⟩) HS1.out).trans (by simp));have z0:=FX.out 0;have z1:=FX.out 1;have z2:=FX.out 2;have z3:=FX.out 3;have z4:=FX.out 4;have z5:=FX.out 5;have z6:=FX.out 6;have z7:=FX.out 7;have z8:=FX.out 8;have z9:=FX.out 9;obtain⟨y0,t0⟩:=CX.out 0 (by omega);obtain⟨y1,t1⟩:=CX.out 1 (by omega);obtain⟨y2,t2⟩:=CX.out 2 (by omega);obtain⟨y3,t3⟩:=CX.out 3 (by omega);obtain⟨y4,t4⟩:=CX.out 4 (by omega);obtain⟨y5,t5⟩:=CX.out 5 (by omega);obtain⟨y6,t6⟩:=CX.out 6 (by omega);obtain⟨y7,t7⟩:=CX.out 7 (by omega);obtain⟨y8,t8⟩:=CX.out 8 (by omega);obtain⟨y9,t9⟩:=CX.out 9 (by omega);clear hc3))
 have QQ:=put10 (W:=w3) (b:=w.heap.size) (I O v1) (.string nm) (I O 0) (I O 0) (I O 0) (.slice none 0 0) (.slice none 0 0) (I O v2) (I O 0) (.bool false) CX.out;have FIN:=mh (putL_below w.heap.size mle [I O v1,.string nm,I O 0,I O 0,I O 0,.slice none 0 0,.slice none 0 0,I O v2,I O 0,.bool false] (W:=w3) 0 HB3.out);obtain⟨WF,eWF⟩:∃W:World,putL w3 w.heap.size 0 [I O v1,.string nm,I O 0,I O 0,I O 0,.slice none 0 0,.slice none 0 0,I O v2,I O 0,.bool false]=W:=⟨_,rfl⟩;rw[eWF]at QQ FIN;simp only[putL,Nat.reduceAdd]at eWF;rw[eWF];obtain⟨q0,q1,q2,q3,q4,q5,q6,q7,q8,q9⟩:=(⟨QQ 0 _ rfl,QQ 1 _ rfl,QQ 2 _ rfl,QQ 3 _ rfl,QQ 4 _ rfl,QQ 5 _ rfl,QQ 6 _ rfl,QQ 7 _ rfl,QQ 8 _ rfl,QQ 9 _ rfl⟩:_∧_∧_∧_∧_∧_∧_∧_∧_∧_);clear t0 t1 t2 t3 t4 t5 t6 t7 t8 t9;exact bodyPost_ret (v := .tuple #[.agg #[I O v1,.string nm,I O 0,I O 0,I O 0,.slice none 0 0,.slice none 0 0,I O v2,I O 0,.bool false],.bool true]) (by simp[results,Tryz.results44,go_sem,q0,q1,q2,q3,q4,q5,q6,q7,q8,q9]) rfl (HF.out _ FIN.out)
theorem refhead4_any (q:Option Addr)(a nm b en:ByteArray)(c:Nat)(w:World)(h:Recs SB w q [a,nm,b,en])(hz:∀y ∈ [a,nm,b,en],y.size≤16384) :
  Calls Tryz.prog 44 #[.slice q 4 c] w (RefHeadG (ll [a,nm,b,en]) w):=by
 obtain⟨B,Ox,rfl,hBl,g0⟩:=h.word (j:=0) (by simp);obtain⟨B1,O1,e1, -,g1⟩:=h.word (j:=1) (by simp)
 cases e1
 obtain⟨B2,O2,e2, -,g2⟩:=h.word (j:=2) (by simp)
 cases e2
 obtain⟨B3,O3,e3, -,g3⟩:=h.word (j:=3) (by simp)
 cases e3
 simp only[List.getElem_cons_zero,List.getElem_cons_succ,Nat.add_zero]at g0 g1 g2 g3;have hnz:=hz nm (by simp);have haz:=hz a (by simp);have hbz:=hz b (by simp)
 show Calls _ _ _ _ (RefHeadG [a.data.toList,nm.data.toList,b.data.toList,en.data.toList] w)
 have HBX:=mh (box10 w);have hW1:Below w.heap.size w (w.alloc (.cells #[I O 0,.string ⟨#[]⟩,I O 0,I O 0,I O 0,.slice none 0 0,.slice none 0 0,I O 0,I O 0,.bool false] 31)):=(brf _ _).alloc mle _;have HW1:=mh hW1;have hb3' := (hW1.cell (p:=⟨B,Ox+3,none⟩) hBl).trans g3
 by_cases hen:en.data.toList=wEnt
 rotate_left
 ·have HF:=mh (fun (w' : World) (hb:Below w.heap.size w w')=>RefHeadG.bad (headR_ent (a:=a.data.toList) (nm:=nm.data.toList) (b:=b.data.toList) hen) hb)
  have ez5:(en.toList == [101,110,116,105,116,108,101,100])=false:=by rw[lit_eq];exact dqf hen
  clear h hz
  go_enter Tryz.func44,Tryz.ntmps44
  go_wp2
  obtain⟨WF,eWF⟩:∃W:World,w.alloc (.cells #[I O 0,.string ⟨#[]⟩,I O 0,I O 0,I O 0,.slice none 0 0,.slice none 0 0,I O 0,I O 0,.bool false] 31)=W:=⟨_,rfl⟩;have QQ:∀i,WF.cell? ⟨w.heap.size,i,none⟩=(#[I O 0,.string ⟨#[]⟩,I O 0,I O 0,I O 0,.slice none 0 0,.slice none 0 0,I O 0,I O 0,.bool false]:Array Value)[i]?:=fun i=>by rw[← eWF];exact cwn _ _ _ i
  have FIN:=mh (show Below w.heap.size w WF from eWF▸(brf w.heap.size w).alloc mle _);rw[eWF];obtain⟨q0,q1,q2,q3,q4,q5,q6,q7,q8,q9⟩:=(⟨QQ 0,QQ 1,QQ 2,QQ 3,QQ 4,QQ 5,QQ 6,QQ 7,QQ 8,QQ 9⟩:WF.cell? ⟨w.heap.size,0,none⟩=some (I O 0)∧WF.cell? ⟨w.heap.size,1,none⟩=some (.string ⟨#[]⟩)∧WF.cell? ⟨w.heap.size,2,none⟩=some (I O 0)∧WF.cell? ⟨w.heap.size,3,none⟩=some (I O 0)∧WF.cell? ⟨w.heap.size,4,none⟩=some (I O 0)∧WF.cell? ⟨w.heap.size,5,none⟩=some (.slice none 0 0)∧WF.cell? ⟨w.heap.size,6,none⟩=some (.slice none 0 0)∧WF.cell? ⟨w.heap.size,7,none⟩=some (I O 0)∧WF.cell? ⟨w.heap.size,8,none⟩=some (I O 0)∧WF.cell? ⟨w.heap.size,9,none⟩=some (.bool false));clear eWF QQ;exact bodyPost_ret (v := .tuple #[.agg #[I O 0,.string ⟨#[]⟩,I O 0,I O 0,I O 0,.slice none 0 0,.slice none 0 0,I O 0,I O 0,.bool false],.bool false]) (by simp[results,Tryz.results44,go_sem,q0,q1,q2,q3,q4,q5,q6,q7,q8,q9]) rfl (HF.out _ FIN.out)
 have ez5:(en.toList == [101,110,116,105,116,108,101,100])=true:=by rw[lit_eq];exact dqt hen
 rw[hen];have hgo:=headR_go (a:=a.data.toList) (nm:=nm.data.toList) (b:=b.data.toList) (r := [wEnt]) (.inr rfl);have NM:=mh (show ∀W,Calls Tryz.prog 52 #[.string nm] W (fun e w' => e = .returned (.bool (Wo.nameB nm.data.toList))∧W=w') from fun W=>refname_any nm W (by omega));have NU1:=mh (fun (W:World)=>show Calls Tryz.prog 46 #[.string a,I O 15] W (fun e w' => e = .returned (.tuple #[I O (Wo.numV a.data.toList 0 15),.bool (Wo.numB a.data.toList 0 15)])∧Below W.heap.size W w') from refnumber17_any a 15 W (by omega));have NU2:=mh (fun (W:World)=>show Calls Tryz.prog 46 #[.string b,I O 268435456] W (fun e w' => e = .returned (.tuple #[I O (Wo.numV b.data.toList 0 268435456),.bool (Wo.numB b.data.toList 0 268435456)])∧Below W.heap.size W w') from refnumber17_any b 268435456 W (by omega));obtain⟨nb,enb⟩:∃z,Wo.nameB nm.data.toList=z:=⟨_,rfl⟩;obtain⟨k1,ek1⟩:∃z,Wo.numB a.data.toList 0 15=z:=⟨_,rfl⟩;obtain⟨k2,ek2⟩:∃z,Wo.numB b.data.toList 0 268435456=z:=⟨_,rfl⟩;obtain⟨v1,ev1⟩:∃z,Wo.numV a.data.toList 0 15=z:=⟨_,rfl⟩;obtain⟨v2,ev2⟩:∃z,Wo.numV b.data.toList 0 268435456=z:=⟨_,rfl⟩;rw[enb]at NM;rw[ek1,ev1]at NU1;rw[ek2,ev2]at NU2;rw[enb,ek1,ek2,ev1,ev2]at hgo;have hb0:=(hW1.cell (p:=⟨B,Ox,none⟩) hBl).trans g0;have hb1:=(hW1.cell (p:=⟨B,Ox+1,none⟩) hBl).trans g1;have hb2:=(hW1.cell (p:=⟨B,Ox+2,none⟩) hBl).trans g2;have H1:=mh hb1;have H2:=mh hb2;clear h hz enb ek1 ek2 ev1 ev2
 cases nb
 ·rw[if_neg (by simp)]at hgo
  have HF:=mh (fun (w' : World) (hb:Below w.heap.size w w')=>RefHeadG.bad hgo hb);clear hgo
  go_enter Tryz.func44,Tryz.ntmps44
  go_wp2_with (first|(go_at_call 52;(with_reducible refine cmo (NM.out _) ?_);rintro e w1 ⟨rfl,rfl⟩))
  obtain⟨WF,eWF⟩:∃W:World,w.alloc (.cells #[I O 0,.string ⟨#[]⟩,I O 0,I O 0,I O 0,.slice none 0 0,.slice none 0 0,I O 0,I O 0,.bool false] 31)=W:=⟨_,rfl⟩;have QQ:∀i,WF.cell? ⟨w.heap.size,i,none⟩=(#[I O 0,.string ⟨#[]⟩,I O 0,I O 0,I O 0,.slice none 0 0,.slice none 0 0,I O 0,I O 0,.bool false]:Array Value)[i]?:=fun i=>by rw[← eWF];exact cwn _ _ _ i
  have FIN:=mh (show Below w.heap.size w WF from eWF▸(brf w.heap.size w).alloc mle _);rw[eWF];obtain⟨q0,q1,q2,q3,q4,q5,q6,q7,q8,q9⟩:=(⟨QQ 0,QQ 1,QQ 2,QQ 3,QQ 4,QQ 5,QQ 6,QQ 7,QQ 8,QQ 9⟩:WF.cell? ⟨w.heap.size,0,none⟩=some (I O 0)∧WF.cell? ⟨w.heap.size,1,none⟩=some (.string ⟨#[]⟩)∧WF.cell? ⟨w.heap.size,2,none⟩=some (I O 0)∧WF.cell? ⟨w.heap.size,3,none⟩=some (I O 0)∧WF.cell? ⟨w.heap.size,4,none⟩=some (I O 0)∧WF.cell? ⟨w.heap.size,5,none⟩=some (.slice none 0 0)∧WF.cell? ⟨w.heap.size,6,none⟩=some (.slice none 0 0)∧WF.cell? ⟨w.heap.size,7,none⟩=some (I O 0)∧WF.cell? ⟨w.heap.size,8,none⟩=some (I O 0)∧WF.cell? ⟨w.heap.size,9,none⟩=some (.bool false));clear eWF QQ;exact bodyPost_ret (v := .tuple #[.agg #[I O 0,.string ⟨#[]⟩,I O 0,I O 0,I O 0,.slice none 0 0,.slice none 0 0,I O 0,I O 0,.bool false],.bool false]) (by simp[results,Tryz.results44,go_sem,q0,q1,q2,q3,q4,q5,q6,q7,q8,q9]) rfl (HF.out _ FIN.out)
 have HS1:=mh (show w.heap.size<(w.alloc (.cells #[I O 0,.string ⟨#[]⟩,I O 0,I O 0,I O 0,.slice none 0 0,.slice none 0 0,I O 0,I O 0,.bool false] 31)).heap.size by simp)
 cases k1
 ·rw[if_neg (by simp)]at hgo
  have HF:=mh (fun (w' : World) (hb:Below w.heap.size w w')=>RefHeadG.odd v1 nm v2 true hgo hb);clear hgo
  cases k2
  all_goals
   go_enter Tryz.func44,Tryz.ntmps44
   go_wp2_with (first|(go_at_call 52;(with_reducible refine cmo (NM.out _) ?_);rintro e w1 ⟨rfl,rfl⟩)|(go_at_call 46;(with_reducible refine cmo (NU1.out _) ?_);rintro e w2 ⟨rfl,hc2⟩;have HB2:=mh (bstep mle HW1.out hc2);have m1:=(HB2.out.cell (p:=⟨B,Ox+1,none⟩) hBl).trans g1;have m2:=(HB2.out.cell (p:=⟨B,Ox+2,none⟩) hBl).trans g2;have X2:=mh hc2;clear hc2)|(go_at_call 46;(with_reducible refine cmo (NU2.out _) ?_);rintro e w3 ⟨rfl,hc3⟩;have HB3:=mh (bstep mle HB2.out hc3);have n1:=(HB3.out.cell (p:=⟨B,Ox+1,none⟩) hBl).trans g1;have X3:=mh (bstep mle X2.out hc3);have CX:=mh (fun j (hj:j<10)=>show ∃u,w3.cell? ⟨w.heap.size,j,none⟩=some u from by obtain⟨u,hu⟩:=HBX.out j hj;exact⟨u,(X3.out.cell (p:=⟨w.heap.size,j,none⟩) HS1.out).trans hu⟩);have FX:=mh (fun j=>show w3.frozen? ⟨w.heap.size,j,none⟩=false from(X3.out.frozen (p:=⟨w.heap.size,j,none⟩) HS1.out).trans (by simp));have z0:=FX.out 0;have z1:=FX.out 1;have z2:=FX.out 2;have z3:=FX.out 3;have z4:=FX.out 4;have z5:=FX.out 5;have z6:=FX.out 6;have z7:=FX.out 7;have z8:=FX.out 8;have z9:=FX.out 9;obtain⟨y0,t0⟩:=CX.out 0 (by omega);obtain⟨y1,t1⟩:=CX.out 1 (by omega);obtain⟨y2,t2⟩:=CX.out 2 (by omega);obtain⟨y3,t3⟩:=CX.out 3 (by omega);obtain⟨y4,t4⟩:=CX.out 4 (by omega);obtain⟨y5,t5⟩:=CX.out 5 (by omega);obtain⟨y6,t6⟩:=CX.out 6 (by omega);obtain⟨y7,t7⟩:=CX.out 7 (by omega);obtain⟨y8,t8⟩:=CX.out 8 (by omega);obtain⟨y9,t9⟩:=CX.out 9 (by omega);clear hc3))
   have QQ:=put10 (W:=w3) (b:=w.heap.size) (I O v1) (.string nm) (I O 0) (I O 0) (I O 0) (.slice none 0 0) (.slice none 0 0) (I O v2) (I O 0) (.bool true) CX.out;have FIN:=mh (putL_below w.heap.size mle [I O v1,.string nm,I O 0,I O 0,I O 0,.slice none 0 0,.slice none 0 0,I O v2,I O 0,.bool true] (W:=w3) 0 HB3.out);obtain⟨WF,eWF⟩:∃W:World,putL w3 w.heap.size 0 [I O v1,.string nm,I O 0,I O 0,I O 0,.slice none 0 0,.slice none 0 0,I O v2,I O 0,.bool true]=W:=⟨_,rfl⟩;rw[eWF]at QQ FIN;simp only[putL,Nat.reduceAdd]at eWF;rw[eWF];obtain⟨q0,q1,q2,q3,q4,q5,q6,q7,q8,q9⟩:=(⟨QQ 0 _ rfl,QQ 1 _ rfl,QQ 2 _ rfl,QQ 3 _ rfl,QQ 4 _ rfl,QQ 5 _ rfl,QQ 6 _ rfl,QQ 7 _ rfl,QQ 8 _ rfl,QQ 9 _ rfl⟩:_∧_∧_∧_∧_∧_∧_∧_∧_∧_);clear t0 t1 t2 t3 t4 t5 t6 t7 t8 t9;exact bodyPost_ret (v := .tuple #[.agg #[I O v1,.string nm,I O 0,I O 0,I O 0,.slice none 0 0,.slice none 0 0,I O v2,I O 0,.bool true],.bool false]) (by simp[results,Tryz.results44,go_sem,q0,q1,q2,q3,q4,q5,q6,q7,q8,q9]) rfl (HF.out _ FIN.out)
 cases k2
 ·rw[if_neg (by simp)]at hgo
  have HF:=mh (fun (w' : World) (hb:Below w.heap.size w w')=>RefHeadG.odd v1 nm v2 true hgo hb);clear hgo
  go_enter Tryz.func44,Tryz.ntmps44
  go_wp2_with (first|(go_at_call 52;(with_reducible refine cmo (NM.out _) ?_);rintro e w1 ⟨rfl,rfl⟩)|(go_at_call 46;(with_reducible refine cmo (NU1.out _) ?_);rintro e w2 ⟨rfl,hc2⟩;have HB2:=mh (bstep mle HW1.out hc2);have m1:=(HB2.out.cell (p:=⟨B,Ox+1,none⟩) hBl).trans g1;have m2:=(HB2.out.cell (p:=⟨B,Ox+2,none⟩) hBl).trans g2;have X2:=mh hc2;clear hc2)|(go_at_call 46;(with_reducible refine cmo (NU2.out _) ?_);rintro e w3 ⟨rfl,hc3⟩;have HB3:=mh (bstep mle HB2.out hc3);have n1:=(HB3.out.cell (p:=⟨B,Ox+1,none⟩) hBl).trans g1;have X3:=mh (bstep mle X2.out hc3);have CX:=mh (fun j (hj:j<10)=>show ∃u,w3.cell? ⟨w.heap.size,j,none⟩=some u from by obtain⟨u,hu⟩:=HBX.out j hj;exact⟨u,(X3.out.cell (p:=⟨w.heap.size,j,none⟩) HS1.out).trans hu⟩);have FX:=mh (fun j=>show w3.frozen? ⟨w.heap.size,j,none⟩=false from(X3.out.frozen (p:=⟨w.heap.size,j,none⟩) HS1.out).trans (by simp));have z0:=FX.out 0;have z1:=FX.out 1;have z2:=FX.out 2;have z3:=FX.out 3;have z4:=FX.out 4;have z5:=FX.out 5;have z6:=FX.out 6;have z7:=FX.out 7;have z8:=FX.out 8;have z9:=FX.out 9;obtain⟨y0,t0⟩:=CX.out 0 (by omega);obtain⟨y1,t1⟩:=CX.out 1 (by omega);obtain⟨y2,t2⟩:=CX.out 2 (by omega);obtain⟨y3,t3⟩:=CX.out 3 (by omega);obtain⟨y4,t4⟩:=CX.out 4 (by omega);obtain⟨y5,t5⟩:=CX.out 5 (by omega);obtain⟨y6,t6⟩:=CX.out 6 (by omega);obtain⟨y7,t7⟩:=CX.out 7 (by omega);obtain⟨y8,t8⟩:=CX.out 8 (by omega);obtain⟨y9,t9⟩:=CX.out 9 (by omega);clear hc3))
  have QQ:=put10 (W:=w3) (b:=w.heap.size) (I O v1) (.string nm) (I O 0) (I O 0) (I O 0) (.slice none 0 0) (.slice none 0 0) (I O v2) (I O 0) (.bool true) CX.out;have FIN:=mh (putL_below w.heap.size mle [I O v1,.string nm,I O 0,I O 0,I O 0,.slice none 0 0,.slice none 0 0,I O v2,I O 0,.bool true] (W:=w3) 0 HB3.out);obtain⟨WF,eWF⟩:∃W:World,putL w3 w.heap.size 0 [I O v1,.string nm,I O 0,I O 0,I O 0,.slice none 0 0,.slice none 0 0,I O v2,I O 0,.bool true]=W:=⟨_,rfl⟩;rw[eWF]at QQ FIN;simp only[putL,Nat.reduceAdd]at eWF;rw[eWF];obtain⟨q0,q1,q2,q3,q4,q5,q6,q7,q8,q9⟩:=(⟨QQ 0 _ rfl,QQ 1 _ rfl,QQ 2 _ rfl,QQ 3 _ rfl,QQ 4 _ rfl,QQ 5 _ rfl,QQ 6 _ rfl,QQ 7 _ rfl,QQ 8 _ rfl,QQ 9 _ rfl⟩:_∧_∧_∧_∧_∧_∧_∧_∧_∧_);clear t0 t1 t2 t3 t4 t5 t6 t7 t8 t9;exact bodyPost_ret (v := .tuple #[.agg #[I O v1,.string nm,I O 0,I O 0,I O 0,.slice none 0 0,.slice none 0 0,I O v2,I O 0,.bool true],.bool false]) (by simp[results,Tryz.results44,go_sem,q0,q1,q2,q3,q4,q5,q6,q7,q8,q9]) rfl (HF.out _ FIN.out)
 rw[if_pos ⟨rfl,rfl,rfl⟩]at hgo;have HF:=mh (fun (w' : World) (hb:Below w.heap.size w w')=>RefHeadG.good (num:=v1) (nm:=nm) (least:=v2) (needs:=true) (hgo.trans (by simp)) hb);clear hgo
 go_enter Tryz.func44,Tryz.ntmps44
 go_wp2_with (first|(go_at_call 52;(with_reducible refine cmo (NM.out _) ?_);rintro e w1 ⟨rfl,rfl⟩)|(go_at_call 46;(with_reducible refine cmo (NU1.out _) ?_);rintro e w2 ⟨rfl,hc2⟩;have HB2:=mh (bstep mle HW1.out hc2);have m1:=(HB2.out.cell (p:=⟨B,Ox+1,none⟩) hBl).trans g1;have m2:=(HB2.out.cell (p:=⟨B,Ox+2,none⟩) hBl).trans g2;have X2:=mh hc2;clear hc2)|(go_at_call 46;(with_reducible refine cmo (NU2.out _) ?_);rintro e w3 ⟨rfl,hc3⟩;have HB3:=mh (bstep mle HB2.out hc3);have n1:=(HB3.out.cell (p:=⟨B,Ox+1,none⟩) hBl).trans g1;have X3:=mh (bstep mle X2.out hc3);have CX:=mh (fun j (hj:j<10)=>show ∃u,w3.cell? ⟨w.heap.size,j,none⟩=some u from by obtain⟨u,hu⟩:=HBX.out j hj;exact⟨u,(X3.out.cell (p:=⟨w.heap.size,j,none⟩) HS1.out).trans hu⟩);have FX:=mh (fun j=>show w3.frozen? ⟨w.heap.size,j,none⟩=false from(X3.out.frozen (p:=⟨w.heap.size,j,none⟩) HS1.out).trans (by simp));have z0:=FX.out 0;have z1:=FX.out 1;have z2:=FX.out 2;have z3:=FX.out 3;have z4:=FX.out 4;have z5:=FX.out 5;have z6:=FX.out 6;have z7:=FX.out 7;have z8:=FX.out 8;have z9:=FX.out 9;obtain⟨y0,t0⟩:=CX.out 0 (by omega);obtain⟨y1,t1⟩:=CX.out 1 (by omega);obtain⟨y2,t2⟩:=CX.out 2 (by omega);obtain⟨y3,t3⟩:=CX.out 3 (by omega);obtain⟨y4,t4⟩:=CX.out 4 (by omega);obtain⟨y5,t5⟩:=CX.out 5 (by omega);obtain⟨y6,t6⟩:=CX.out 6 (by omega);obtain⟨y7,t7⟩:=CX.out 7 (by omega);obtain⟨y8,t8⟩:=CX.out 8 (by omega);obtain⟨y9,t9⟩:=CX.out 9 (by omega);clear hc3))
 have QQ:=put10 (W:=w3) (b:=w.heap.size) (I O v1) (.string nm) (I O 0) (I O 0) (I O 0) (.slice none 0 0) (.slice none 0 0) (I O v2) (I O 0) (.bool true) CX.out;have FIN:=mh (putL_below w.heap.size mle [I O v1,.string nm,I O 0,I O 0,I O 0,.slice none 0 0,.slice none 0 0,I O v2,I O 0,.bool true] (W:=w3) 0 HB3.out);obtain⟨WF,eWF⟩:∃W:World,putL w3 w.heap.size 0 [I O v1,.string nm,I O 0,I O 0,I O 0,.slice none 0 0,.slice none 0 0,I O v2,I O 0,.bool true]=W:=⟨_,rfl⟩;rw[eWF]at QQ FIN;simp only[putL,Nat.reduceAdd]at eWF;rw[eWF];obtain⟨q0,q1,q2,q3,q4,q5,q6,q7,q8,q9⟩:=(⟨QQ 0 _ rfl,QQ 1 _ rfl,QQ 2 _ rfl,QQ 3 _ rfl,QQ 4 _ rfl,QQ 5 _ rfl,QQ 6 _ rfl,QQ 7 _ rfl,QQ 8 _ rfl,QQ 9 _ rfl⟩:_∧_∧_∧_∧_∧_∧_∧_∧_∧_);clear t0 t1 t2 t3 t4 t5 t6 t7 t8 t9;exact bodyPost_ret (v := .tuple #[.agg #[I O v1,.string nm,I O 0,I O 0,I O 0,.slice none 0 0,.slice none 0 0,I O v2,I O 0,.bool true],.bool true]) (by simp[results,Tryz.results44,go_sem,q0,q1,q2,q3,q4,q5,q6,q7,q8,q9]) rfl (HF.out _ FIN.out)
theorem refhead17_any (q:Option Addr)(ws:List ByteArray)(n c:Nat)(w:World)(hn:ws.length=n)(h:Recs SB w q ws)(hz:∀x∈ws,x.size≤16384) :
  Calls Tryz.prog 44 #[.slice q n c] w (RefHeadG (ll ws) w):=by
 by_cases h3:n=3
 ·subst h3
  obtain⟨a,nm,b,rfl⟩:∃a nm b,ws = [a,nm,b]:=by
   match ws,hn with
   | [a,nm,b],_=>exact⟨a,nm,b,rfl⟩
  exact refhead3_any q a nm b c w h hz
 by_cases h4:n=4
 ·subst h4
  obtain⟨a,nm,b,e,rfl⟩:=four_of hn;exact refhead4_any q a nm b e c w h hz
 have hp:headR (ll ws)=none:=headR_len (by unfold ll;rw[List.length_map,hn];exact h3) (by unfold ll;rw[List.length_map,hn];exact h4);have d4:((n:Int) != 3)=true:=by simp;omega
 have d5:((n:Int) != 4)=true:=by simp;omega
 have HBX:=mh (box10 w);have HF:=mh (fun (w' : World) (hb:Below w.heap.size w w')=>RefHeadG.bad hp hb);clear h hz hp h3 h4
 go_enter Tryz.func44,Tryz.ntmps44
 go_wp2
 obtain⟨WF,eWF⟩:∃W:World,w.alloc (.cells #[I O 0,.string ⟨#[]⟩,I O 0,I O 0,I O 0,.slice none 0 0,.slice none 0 0,I O 0,I O 0,.bool false] 31)=W:=⟨_,rfl⟩;have QQ:∀i,WF.cell? ⟨w.heap.size,i,none⟩=(#[I O 0,.string ⟨#[]⟩,I O 0,I O 0,I O 0,.slice none 0 0,.slice none 0 0,I O 0,I O 0,.bool false]:Array Value)[i]?:=fun i=>by rw[← eWF];exact cwn _ _ _ i
 have FIN:=mh (show Below w.heap.size w WF from eWF▸(brf w.heap.size w).alloc mle _);rw[eWF];obtain⟨q0,q1,q2,q3,q4,q5,q6,q7,q8,q9⟩:=(⟨QQ 0,QQ 1,QQ 2,QQ 3,QQ 4,QQ 5,QQ 6,QQ 7,QQ 8,QQ 9⟩:WF.cell? ⟨w.heap.size,0,none⟩=some (I O 0)∧WF.cell? ⟨w.heap.size,1,none⟩=some (.string ⟨#[]⟩)∧WF.cell? ⟨w.heap.size,2,none⟩=some (I O 0)∧WF.cell? ⟨w.heap.size,3,none⟩=some (I O 0)∧WF.cell? ⟨w.heap.size,4,none⟩=some (I O 0)∧WF.cell? ⟨w.heap.size,5,none⟩=some (.slice none 0 0)∧WF.cell? ⟨w.heap.size,6,none⟩=some (.slice none 0 0)∧WF.cell? ⟨w.heap.size,7,none⟩=some (I O 0)∧WF.cell? ⟨w.heap.size,8,none⟩=some (I O 0)∧WF.cell? ⟨w.heap.size,9,none⟩=some (.bool false));clear eWF QQ;exact bodyPost_ret (v := .tuple #[.agg #[I O 0,.string ⟨#[]⟩,I O 0,I O 0,I O 0,.slice none 0 0,.slice none 0 0,I O 0,I O 0,.bool false],.bool false]) (by simp[results,Tryz.results44,go_sem,q0,q1,q2,q3,q4,q5,q6,q7,q8,q9]) rfl (HF.out _ FIN.out)
namespace Te
open Go.Lib
theorem read_mem:∀f:Nat,(∀w t r,readT f w=some (t,r)→∀z∈r,z∈w)∧(∀w K r,readL f w=some (K,r)→∀z∈r,z∈w)
 | 0=>⟨fun w t r h=>by rw[readT]at h;(try cases h),fun w K r h=>by rw[readL]at h;(try cases h)⟩
 | f+1=>by
   obtain⟨i1,i2⟩:=read_mem f;refine⟨fun w t r h=>?_,fun w K r h=>?_⟩
   ·cases w with
    | nil=>rw[readT,Te.stepT]at h;cases h
    | cons x w =>
      rw[readT,Te.stepT.eq_def]at h
      dsimp only at h
      split at h
      ·cases h
      split at h
      ·cases h;exact fun z hz=>List.mem_cons_of_mem _ hz
      split at h
      ·split at h
       ·next e=>cases h;exact fun z hz=>List.mem_cons_of_mem _ (i1 _ _ _ e z hz)
       ·cases h
      split at h
      ·cases w with
       | nil=>cases h
       | cons y w =>
         simp only at h
         split at h
         ·split at h
          ·next e=>cases h;exact fun z hz=>List.mem_cons_of_mem _ (List.mem_cons_of_mem _ (i2 _ _ _ e z hz))
          ·cases h
         ·cases h
      split at h
      ·cases w with
       | nil=>cases h
       | cons y w =>
         simp only at h
         split at h
         ·cases h;exact fun z hz=>List.mem_cons_of_mem _ (List.mem_cons_of_mem _ hz)
         ·cases h
      ·cases w with
       | nil=>cases h
       | cons y w =>
         simp only at h
         split at h
         ·cases h
         split at h
         ·cases w with
          | nil=>cases h
          | cons z w =>
            simp only at h
            split at h
            ·cases h;exact fun z hz=>List.mem_cons_of_mem _ (List.mem_cons_of_mem _ (List.mem_cons_of_mem _ hz))
            ·cases h
         ·cases h;exact fun z hz=>List.mem_cons_of_mem _ (List.mem_cons_of_mem _ hz)
   ·cases w with
    | nil=>rw[readL,Te.stepL]at h;cases h
    | cons y w =>
      rw[readL,Te.stepL]at h
      split at h
      ·cases h;exact fun z hz=>List.mem_cons_of_mem _ hz
      ·split at h
       ·cases h
       ·next e =>
        split at h
        ·cases h
        ·next e2=>cases h;exact fun z hz=>i1 _ _ _ e z (i2 _ _ _ e2 z hz)
theorem read_count:∀f:Nat,(∀w t r,readT f w=some (t,r)→count t+r.length≤w.length)∧(∀w K r,readL f w=some (K,r)→countL K+r.length+1≤w.length)
 | 0=>⟨fun w t r h=>by rw[readT]at h;(try cases h),fun w K r h=>by rw[readL]at h;(try cases h)⟩
 | f+1=>by
   obtain⟨i1,i2⟩:=read_count f;refine⟨fun w t r h=>?_,fun w K r h=>?_⟩
   ·cases w with
    | nil=>rw[readT,Te.stepT]at h;cases h
    | cons x w =>
      rw[readT,Te.stepT.eq_def]at h
      dsimp only at h
      split at h
      ·cases h
      split at h
      ·cases h;simp only[count,countL,List.length_cons];omega
      split at h
      ·split at h
       ·next e=>cases h;have:=i1 _ _ _ e;simp only[count,countL,List.length_cons];omega
       ·cases h
      split at h
      ·cases w with
       | nil=>cases h
       | cons y w =>
         simp only at h
         split at h
         ·split at h
          ·next e=>cases h;have:=i2 _ _ _ e;simp only[count,List.length_cons];omega
          ·cases h
         ·cases h
      split at h
      ·cases w with
       | nil=>cases h
       | cons y w =>
         simp only at h
         split at h
         ·cases h;simp only[count,countL,List.length_cons];omega
         ·cases h
      ·cases w with
       | nil=>cases h
       | cons y w =>
         simp only at h
         split at h
         ·cases h
         split at h
         ·cases w with
          | nil=>cases h
          | cons z w =>
            simp only at h
            split at h
            ·cases h;simp only[count,countL,List.length_cons];omega
            ·cases h
         ·cases h;simp only[count,countL,List.length_cons];omega
   ·cases w with
    | nil=>rw[readL,Te.stepL]at h;cases h
    | cons y w =>
      rw[readL,Te.stepL]at h
      split at h
      ·cases h;simp only[countL,List.length_cons];omega
      ·split at h
       ·cases h
       ·next e =>
        split at h
        ·cases h
        ·next e2=>cases h;have:=i1 _ _ _ e;have:=i2 _ _ _ e2;simp only[countL,List.length_cons]at *;omega
end Te
end Go.Proofs.YtbcmabolkkfgfaaGreatDoor
