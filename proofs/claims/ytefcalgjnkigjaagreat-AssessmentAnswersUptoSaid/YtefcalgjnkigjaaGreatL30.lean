/- Packed. -/
import Derived.Test.YtefcalgjnkigjaaGreatL29
set_option maxRecDepth 100000
set_option maxHeartbeats 8000000
open Go.Value renaming int → I
open Go.IntKind renaming i64 → O
namespace Go.Proofs.YtefcalgjnkigjaaGreat
open Go.RowKit Sc As
def aw34S:Sch:=⟨2,⟨#[97]⟩,kV, [⟨1000,200⟩],0,0,false⟩
def uJ:YLaw:=⟨[aw34S], [(30,1)],⟨5,9,0⟩, [],5000,5000,1,0⟩
def uQ:FarmF:=⟨7,3, [⟨50,4, [50],0,0,0,0⟩]⟩
theorem vRA:kG uJ=0:=by kernel_rfl
theorem qAA:xG uJ [uQ]=0:=by kernel_rfl
theorem yBA:farmErr uJ uQ=0:=by kernel_rfl
theorem yCA:jV uJ uQ = [⟨7,2,50,50,50,100,100,100,0⟩]:=by kernel_rfl
theorem vEA:gD uJ uQ = []:=by kernel_rfl
theorem vLA:jR uJ [uQ]=0:=by kernel_rfl
theorem lX:yP uJ [uQ] = [⟨7,2,50,50,50,100,100,100,100⟩]:=by kernel_rfl
theorem jF.lit8 (w:World)(T:TypeId)(D:List (Int × Int))(hl:D.length≤maxLen):jF (w.alloc (.cells (zS D).toArray T)) (some ⟨w.heap.size,0,none⟩) D:=by
 refine⟨hl,.inr ⟨_,0,rfl,by simp,fun j hj=>?_⟩⟩
 have hp:=bZ D j hj;rw[Nat.zero_add,cwn,cwn]
 simpa using hp
structure AwS (w W:World) (b1 b2 b3 b5 b6:Nat):Prop where
 yv:YV (fun _=>True) W 0 ⟨some ⟨b1,0,none⟩,1,1,some ⟨b2,0,none⟩,1,1,5,9,0,none,0,0,5000,5000,1,0⟩ uJ
 fs:yF (fun _=>True) W (some ⟨b6,0,none⟩) [uQ]
 fv:FV (fun _=>True) W ⟨7,3,some ⟨b5,0,none⟩,1,1⟩ uQ
 bl:Blk W b3 #[.slice (some ⟨b1,0,none⟩) 1 1,.slice (some ⟨b2,0,none⟩) 1 1,I O 5,I O 9,I O 0,.slice none 0 0,I O 5000,I O 5000,I O 1,I O 0] 29
 bf:Blk W b6 #[I O 7,I O 3,.slice (some ⟨b5,0,none⟩) 1 1] 47
 low:Below w.heap.size w W
theorem AwS.below {w W W' : World}{b1 b2 b3 b5 b6:Nat}(h:AwS w W b1 b2 b3 b5 b6)(hb:Below W.heap.size W W'):AwS w W' b1 b2 b3 b5 b6 :=
 ⟨h.yv.below hb,h.fs.below hb,h.fv.below hb,h.bl.below hb,h.bf.below hb,h.low.trans (hb.mono h.low.size)⟩
theorem vAA {w w1 w2 w3 w4 w5 w6 w7:World}{b0 b1 b2 b3 b4 b5 b6:Nat}(e0:w.heap.size=b0)(e1:b0+1=b1)(e2:b1+1=b2)(e3:b2+1=b3)(e4:b3+1=b4)(e5:b4+1=b5)(e6:b5+1=b6)
  (h1:w1=w.alloc (.cells #[I O 1000,I O 200] 78))
  (h2:w2=w1.alloc (.cells #[I O 2,.string ⟨#[97]⟩,I O 1,I O 0,I O 0,.slice none 0 0,.slice (some ⟨b0,0,none⟩) 1 1,I O 0,I O 0,.bool false] 81))
  (h3:w3=w2.alloc (.cells #[I O 30,I O 1] 83))
  (h4:w4=w3.alloc (.cells #[.slice (some ⟨b1,0,none⟩) 1 1,.slice (some ⟨b2,0,none⟩) 1 1,I O 5,I O 9,I O 0,.slice none 0 0,I O 5000,I O 5000,I O 1,I O 0] 29))
  (h5:w5=w4.alloc (.cells #[I O 50] 3))
  (h6:w6=w5.alloc (.cells #[I O 50,I O 4,.slice (some ⟨b4,0,none⟩) 1 1,I O 0,I O 0,I O 0,I O 0] 89))
  (h7:w7=w6.alloc (.cells #[I O 7,I O 3,.slice (some ⟨b5,0,none⟩) 1 1] 47)):AwS w w7 b1 b2 b3 b5 b6:=by
 have s1:w1.heap.size=b1:=by rw[h1,World.size_alloc];omega
 have s2:w2.heap.size=b2:=by rw[h2,World.size_alloc];omega
 have s3:w3.heap.size=b3:=by rw[h3,World.size_alloc];omega
 have s4:w4.heap.size=b4:=by rw[h4,World.size_alloc];omega
 have s5:w5.heap.size=b5:=by rw[h5,World.size_alloc];omega
 have s6:w6.heap.size=b6:=by rw[h6,World.size_alloc];omega
 have al:∀(W W' : World) (o:Obj),W' = W.alloc o→Below W.heap.size W W' := fun W W' o h=>by rw[h];exact(brf _ _).alloc mle _
 have q2:=al _ _ _ h2;have q3:=al _ _ _ h3;have q4:=al _ _ _ h4;have q5:=al _ _ _ h5;have q6:=al _ _ _ h6;have q7:=al _ _ _ h7;have d67:=q7;have d57:=q6.trans (q7.mono q6.size);have d47:=q5.trans (d57.mono q5.size);have d37:=q4.trans (d47.mono q4.size);have d27:=q3.trans (d37.mono q3.size);have d17:=q2.trans (d27.mono q2.size);have one:∀n:Nat,n=1→n≤maxLen:=fun n h=>by unfold maxLen;omega
 have R0:qD SBk w1 (some ⟨b0,0,none⟩) [⟨1000,200⟩]:=by rw[h1,← e0];exact qD.lit (S:=SBk) w _ [⟨1000,200⟩] (one _ rfl)
 have R1:qD SSc w2 (some ⟨b1,0,none⟩) [⟨2,⟨#[97]⟩,⟨1,0,0,none,0,0⟩,some ⟨b0,0,none⟩,1,1,0,0,false⟩]:=by rw[h2,← s1];exact qD.lit (S:=SSc) w1 _ [⟨2,⟨#[97]⟩,⟨1,0,0,none,0,0⟩,some ⟨b0,0,none⟩,1,1,0,0,false⟩] (one _ rfl)
 have R2:jF w3 (some ⟨b2,0,none⟩) [(30,1)]:=by rw[h3,← s2];exact jF.lit8 w2 _ [(30,1)] (one _ rfl)
 have R4:qR w5 (some ⟨b4,0,none⟩) [50]:=by rw[h5,← s4];exact qR.lit w4 _ [50] (one _ rfl)
 have R5:qD SL w6 (some ⟨b5,0,none⟩) [⟨50,4,some ⟨b4,0,none⟩,1,1,0,0,0,0⟩]:=by rw[h6,← s5];exact qD.lit (S:=SL) w5 _ [⟨50,4,some ⟨b4,0,none⟩,1,1,0,0,0,0⟩] (one _ rfl)
 have R6:qD SF w7 (some ⟨b6,0,none⟩) [⟨7,3,some ⟨b5,0,none⟩,1,1⟩]:=by rw[h7,← s6];exact qD.lit (S:=SF) w6 _ [⟨7,3,some ⟨b5,0,none⟩,1,1⟩] (one _ rfl)
 have V:FV (fun _=>True) w7 ⟨7,3,some ⟨b5,0,none⟩,1,1⟩ uQ:=⟨rfl,rfl,⟨⟨_,rfl,R5.below d67,fun k a b=>by
  obtain rfl:k=0:=by simp at a;exact a
  exact⟨rfl,rfl,R4.below d57,rfl,Nat.le_refl _,(fun e=>by cases e),fun _ _ => .inr trivial,rfl,rfl,rfl,rfl⟩⟩,fun _ _ => .inr trivial⟩,rfl,Nat.le_refl _,fun e=>by cases e⟩
 refine⟨⟨⟨⟨_,rfl,R1.below d27,fun k a b=>?_⟩,fun _ _ => .inr trivial⟩,rfl,Nat.le_refl _,R2.below d37,rfl,fun _ _ => .inr trivial,rfl,rfl,rfl,jF.nil _ _,rfl,(fun _ e=>by cases e),rfl,rfl,rfl,rfl,fun s hs=>?_,fun s hs=>?_⟩,
  ⟨⟨_,rfl,R6,fun k a b=>?_⟩,fun _ _ => .inr trivial⟩,V,?_,?_,?_⟩
 ·obtain rfl:k=0:=by simp at a;exact a
  exact⟨rfl,rfl,⟨⟨rfl,rfl,rfl,rfl,Nat.le_refl _,fun _=>rfl⟩,jE.nil _ _ _ _⟩,R0.below d17,rfl,Nat.le_refl _,(fun e=>by cases e),fun _ _ => .inr trivial,rfl,rfl,rfl⟩
 ·rw[List.mem_singleton.1 hs];decide
 ·rw[List.mem_singleton.1 hs];decide
 ·obtain rfl:k=0:=by simp at a;exact a
  exact V
 ·have:Blk w4 b3 #[.slice (some ⟨b1,0,none⟩) 1 1,.slice (some ⟨b2,0,none⟩) 1 1,I O 5,I O 9,I O 0,.slice none 0 0,I O 5000,I O 5000,I O 1,I O 0] 29:=by rw[h4,← s3];exact Blk.new _ _ _
  exact this.below d47
 ·rw[h7,← s6];exact Blk.new _ _ _
 ·exact(al _ _ _ h1).trans (d17.mono (al _ _ _ h1).size)
theorem uH (w:World):Calls Tryz.prog 6 #[] w fun e w' => e = .returned (.bool true)∧Below w.heap.size w w' :=by
 obtain⟨b0,e0⟩:∃b,w.heap.size=b:=⟨_,rfl⟩;obtain⟨b1,e1⟩:∃b,b0+1=b:=⟨_,rfl⟩;obtain⟨b2,e2⟩:∃b,b1+1=b:=⟨_,rfl⟩;obtain⟨b3,e3⟩:∃b,b2+1=b:=⟨_,rfl⟩;obtain⟨b4,e4⟩:∃b,b3+1=b:=⟨_,rfl⟩;obtain⟨b5,e5⟩:∃b,b4+1=b:=⟨_,rfl⟩;obtain⟨b6,e6⟩:∃b,b5+1=b:=⟨_,rfl⟩;have M:=mh (vAA e0 e1 e2 e3 e4 e5 e6 rfl rfl rfl rfl rfl rfl rfl)
 go_enter Tryz.func6,Tryz.ntmps6
 go_upto_region 3 with fail
 clear e0 e1 e2 e3 e4 e5 e6;generalize (((((((w.alloc (.cells #[I O 1000,I O 200] 78)).alloc (.cells #[I O 2,.string ⟨#[97]⟩,I O 1,I O 0,I O 0,.slice none 0 0,.slice (some ⟨b0,0,none⟩) 1 1,I O 0,I O 0,.bool false] 81)).alloc (.cells #[I O 30,I O 1] 83)).alloc (.cells #[.slice (some ⟨b1,0,none⟩) 1 1,.slice (some ⟨b2,0,none⟩) 1 1,I O 5,I O 9,I O 0,.slice none 0 0,I O 5000,I O 5000,I O 1,I O 0] 29)).alloc (.cells #[I O 50] 3)).alloc (.cells #[I O 50,I O 4,.slice (some ⟨b4,0,none⟩) 1 1,I O 0,I O 0,I O 0,I O 0] 89)).alloc (.cells #[I O 7,I O 3,.slice (some ⟨b5,0,none⟩) 1 1] 47))=w7 at *;have AS:=mh (fun (W:World) (h:AwS w W b1 b2 b3 b5 b6)=>fL 0 _ uJ (some ⟨b6,0,none⟩) [uQ] 1 W h.yv h.fs);have FR:=mh (fun (W:World) (h:AwS w W b1 b2 b3 b5 b6)=>dR 0 _ uJ ⟨7,3,some ⟨b5,0,none⟩,1,1⟩ uQ W h.yv h.fv);have CK:=mh (fun (W:World) (h:AwS w W b1 b2 b3 b5 b6)=>bH 0 _ uJ W h.yv h.yv.sc);have FC:=mh (fun (W:World) (h:AwS w W b1 b2 b3 b5 b6)=>uS 0 _ uJ (some ⟨b6,0,none⟩) [uQ] 1 W h.yv h.yv.sc h.fs);unfold AsG at AS;unfold FrG at FR;simp only[yCells,fCells,vLA,lX,yBA,yCA,vEA,vRA,qAA]at AS FR CK FC;have DU:=mh (show Due [⟨7,2,50,50,50,100,100,100,100⟩] from⟨by decide,fun a ha=>by rw[List.mem_singleton.1 ha];decide⟩);have AM:=mh (fun (W:World) (p:Option Addr) (c:Nat) (h:qD SA W p [⟨7,2,50,50,50,100,100,100,100⟩])=>show Calls Tryz.prog 22 #[.slice p 1 c,I O 7] W (kW 100 W) from fR p [⟨7,2,50,50,50,100,100,100,100⟩] c 7 W h DU);have TT:=mh (fun (W:World) (p:Option Addr) (c:Nat) (h:qD SA W p [⟨7,2,50,50,50,100,100,100,100⟩])=>show Calls Tryz.prog 20 #[.slice p 1 c] W (kW 100 W) from nQ p [⟨7,2,50,50,50,100,100,100,100⟩] c W h DU);have z0:=M.bl.cell 0;have z1:=M.bl.cell 1;have z2:=M.bl.cell 2;have z3:=M.bl.cell 3;have z4:=M.bl.cell 4;have z5:=M.bl.cell 5;have z6:=M.bl.cell 6;have z7:=M.bl.cell 7;have z8:=M.bl.cell 8;have z9:=M.bl.cell 9;
 go_wp2_with fail
 (with_reducible refine cmo (AS.out _ M.out) ?_);rintro e w8 ⟨va,rfl,hoa,hb8⟩;obtain⟨pa,ca,rfl, -,hpa, -, -,hra⟩:=hoa.cut (n:=1) rfl;have M8:=mh (M.below hb8);have RA:=mh hra;clear hoa hpa hra hb8 z0 z1 z2 z3 z4 z5 z6 z7 z8 z9
 have KD:=mh (show w8.drew.cell? ⟨b3,0,none⟩=some (.slice (some ⟨b1,0,none⟩) 1 1)∧w8.drew.cell? ⟨b3,1,none⟩=some (.slice (some ⟨b2,0,none⟩) 1 1)∧w8.drew.cell? ⟨b3,2,none⟩=some (I O 5)∧w8.drew.cell? ⟨b3,3,none⟩=some (I O 9)∧w8.drew.cell? ⟨b3,4,none⟩=some (I O 0)∧w8.drew.cell? ⟨b3,5,none⟩=some (.slice none 0 0)∧w8.drew.cell? ⟨b3,6,none⟩=some (I O 5000)∧w8.drew.cell? ⟨b3,7,none⟩=some (I O 5000)∧w8.drew.cell? ⟨b3,8,none⟩=some (I O 1)∧w8.drew.cell? ⟨b3,9,none⟩=some (I O 0)∧w8.drew.cell? ⟨b6,0,none⟩=some (I O 7)∧w8.drew.cell? ⟨b6,1,none⟩=some (I O 3)∧w8.drew.cell? ⟨b6,2,none⟩=some (.slice (some ⟨b5,0,none⟩) 1 1) from by
  have h:=M8.below (brf _ _).drew
  exact⟨(mh h).out.bl.cell 0,(mh h).out.bl.cell 1,(mh h).out.bl.cell 2,(mh h).out.bl.cell 3,(mh h).out.bl.cell 4,(mh h).out.bl.cell 5,(mh h).out.bl.cell 6,(mh h).out.bl.cell 7,(mh h).out.bl.cell 8,(mh h).out.bl.cell 9,(mh h).out.bf.cell 0,(mh h).out.bf.cell 1,(mh h).out.bf.cell 2⟩)
 go_wp2_with fail
 go_region_held3 (fun w' => w'.cell? ⟨b3,0,none⟩=some (.slice (some ⟨b1,0,none⟩) 1 1)∧w'.cell? ⟨b3,1,none⟩=some (.slice (some ⟨b2,0,none⟩) 1 1)∧w'.cell? ⟨b3,2,none⟩=some (I O 5)∧w'.cell? ⟨b3,3,none⟩=some (I O 9)∧w'.cell? ⟨b3,4,none⟩=some (I O 0)∧w'.cell? ⟨b3,5,none⟩=some (.slice none 0 0)∧w'.cell? ⟨b3,6,none⟩=some (I O 5000)∧w'.cell? ⟨b3,7,none⟩=some (I O 5000)∧w'.cell? ⟨b3,8,none⟩=some (I O 1)∧w'.cell? ⟨b3,9,none⟩=some (I O 0)∧w'.cell? ⟨b6,0,none⟩=some (I O 7)∧w'.cell? ⟨b6,1,none⟩=some (I O 3)∧w'.cell? ⟨b6,2,none⟩=some (.slice (some ⟨b5,0,none⟩) 1 1)) (first|with_reducible exact KD.out|with_reducible exact K9.out|go_keep) (first|(go_at_call 24;(with_reducible refine cmo (FR.out _ (M8.out.below (brf _ _).drew)) ?_);rintro e w9 ⟨vb,vr,rfl,hob,hor,hb9⟩;obtain⟨pb,cb,rfl, -, -, -, -,hrb⟩:=hob.cut (n:=1) rfl;obtain⟨pr,cr,rfl, -, -, -, -, -⟩:=hor.cut (n:=0) rfl;have M9:=mh ((M8.below (brf _ _).drew).below hb9);have RA9:=mh ((RA.below (brf _ _).drew).below hb9);have RB9:=mh hrb;have K9:=mh (show w9.cell? ⟨b3,0,none⟩=some (.slice (some ⟨b1,0,none⟩) 1 1)∧w9.cell? ⟨b3,1,none⟩=some (.slice (some ⟨b2,0,none⟩) 1 1)∧w9.cell? ⟨b3,2,none⟩=some (I O 5)∧w9.cell? ⟨b3,3,none⟩=some (I O 9)∧w9.cell? ⟨b3,4,none⟩=some (I O 0)∧w9.cell? ⟨b3,5,none⟩=some (.slice none 0 0)∧w9.cell? ⟨b3,6,none⟩=some (I O 5000)∧w9.cell? ⟨b3,7,none⟩=some (I O 5000)∧w9.cell? ⟨b3,8,none⟩=some (I O 1)∧w9.cell? ⟨b3,9,none⟩=some (I O 0)∧w9.cell? ⟨b6,0,none⟩=some (I O 7)∧w9.cell? ⟨b6,1,none⟩=some (I O 3)∧w9.cell? ⟨b6,2,none⟩=some (.slice (some ⟨b5,0,none⟩) 1 1) from⟨M9.bl.cell 0,M9.bl.cell 1,M9.bl.cell 2,M9.bl.cell 3,M9.bl.cell 4,M9.bl.cell 5,M9.bl.cell 6,M9.bl.cell 7,M9.bl.cell 8,M9.bl.cell 9,M9.bf.cell 0,M9.bf.cell 1,M9.bf.cell 2⟩);clear hob hor hb9 hrb)|fail)
 obtain⟨ba,oa,rfl, -, -⟩:=gE RA9 (show 0<1 by omega);obtain⟨bb,ob,rfl, -, -⟩:=gE RB9 (show 0<1 by omega);have z0:=M9.bl.cell 0;have z1:=M9.bl.cell 1;have z2:=M9.bl.cell 2;have z3:=M9.bl.cell 3;have z4:=M9.bl.cell 4;have z5:=M9.bl.cell 5;have z6:=M9.bl.cell 6;have z7:=M9.bl.cell 7;have z8:=M9.bl.cell 8;have z9:=M9.bl.cell 9;
 go_wp2_with (first
  | (go_at_call 12;(with_reducible refine cmo (CK.out _ M9.out) ?_);rintro e w10 ⟨rfl,hb10⟩;have M10:=mh (M9.below hb10);have RA10:=mh (RA9.below hb10);have RB10:=mh (RB9.below hb10);have y0:=M10.bl.cell 0;have y1:=M10.bl.cell 1;have y2:=M10.bl.cell 2;have y3:=M10.bl.cell 3;have y4:=M10.bl.cell 4;have y5:=M10.bl.cell 5;have y6:=M10.bl.cell 6;have y7:=M10.bl.cell 7;have y8:=M10.bl.cell 8;have y9:=M10.bl.cell 9;clear hb10)
  | (go_at_call 15;(with_reducible refine cmo (FC.out _ M10.out) ?_);rintro e w11 ⟨rfl,hb11⟩;have M11:=mh (M10.below hb11);have RA11:=mh (RA10.below hb11);have RB11:=mh (RB10.below hb11);obtain⟨ba', oa', ea, -,⟨x0,x1,x2,x3,x4,x5,x6,x7,x8⟩⟩:=gE RA11 (show 0<1 by omega);cases ea;obtain⟨bb', ob', eb, -,⟨-, -, -, -, -, -, -, -,v8⟩⟩:=gE RB11 (show 0<1 by omega);cases eb;simp only[List.getElem_cons_zero,Nat.zero_mul,Nat.add_zero]at x0 x1 x2 x3 x4 x5 x6 x7 x8 v8;clear hb11)
  | (go_at_call 22;(with_reducible refine cmo (AM.out _ _ _ RA11.out) ?_);rintro e w12 ⟨rfl,hb12⟩;have M12:=mh (M11.below hb12);have RA12:=mh (RA11.below hb12);clear hb12)
  | (go_at_call 20;(with_reducible refine cmo (TT.out _ _ _ RA12.out) ?_);rintro e w13 ⟨rfl,hb13⟩;have M13:=mh (M12.below hb13);clear hb13)
  | fail)
 go_ret
 exact⟨rfl,M13.low⟩
structure Opn (w W:World) (t:Nat) (l:List Int) (q g d:Nat) (r:RY) (Y:YLaw):Prop where
 tape:qV W t l q
 low:Below w.heap.size w W
 wt:w.heap.size≤t
 yv:YV (fun b=>t<b) W d r Y
 vb:Blk W g (yCells r).toArray 29
 tg:t<g
 ok:YOk Y
 len:Y.sch.length≤3
 due:Y.late.due<40
 sm:∀s∈Y.sch,yZ s
section
variable {w w1 w2 W W' : World} {t q q' g d:Nat} {l:List Int} {r:RY} {Y:YLaw}
theorem Opn.next (h:Opn w W t l q g d r Y)(ht:qV W' t l q')(hb:But t W W'):Opn w W' t l q' g d r Y:=by
 have hw:=h.wt;have hs:=h.low.size;have htg:=h.tg;exact⟨ht,h.low.trans (hb.below hw (by omega)),hw,h.yv.change hb.size fun b k hl=>⟨hb.block b hl (by omega),k⟩,h.vb.but hb (by omega),h.tg,h.ok,h.len,h.due,h.sm⟩
theorem Opn.below (h:Opn w W t l q g d r Y)(hb:Below W.heap.size W W'):Opn w W' t l q g d r Y:=h.next (h.tape.below hb) (.of_below hb)
theorem Opn.init {T:TypeId}{l:List Int}(hb:Below w.heap.size w w1)(ht:w.heap.size<w1.heap.size)(hy:YV (jP w1.heap.size) w2 d r Y)(ho:YOk Y)(hl:Y.sch.length≤3)(hd:Y.late.due<40)(hs:∀s∈Y.sch,yZ s)(hp:TpB w1 w2 w.heap.size l q)(hT:T=29) :
  Opn w (w2.alloc (.cells (yCells r).toArray T)) w.heap.size l q w2.heap.size d r Y:=by
 subst hT;have hA:=(brf w2.heap.size w2).alloc mle (.cells (yCells r).toArray 29);have h2:=hp.but.size;refine⟨hp.tape.below hA,(hb.trans (hp.but.below mle hb.size)).trans (hA.mono (by omega)),Nat.le_refl _,hy.change hA.size fun b k hl=>⟨hA.block b hl,by unfold jP at k;omega⟩,Blk.new _ _ _,by omega,ho,hl,hd,hs⟩
end
structure Fms (W:World) (t:Nat) (Y:YLaw) (p:Option Addr) (F:List FarmF) (most:Nat):Prop where
 at_:yF (fun b=>t<b) W p F
 ok:FOk Y F
 fm:∀f∈F,FmOk Y f
 len:F.length≤most
theorem Fms.but {W W' : World}{t:Nat}{Y:YLaw}{p:Option Addr}{F:List FarmF}{most:Nat}(h:Fms W t Y p F most)(hb:But t W W'):Fms W' t Y p F most :=
 ⟨h.at_.change hb.size fun b k hl=>⟨hb.block b hl (by omega),k⟩,h.ok,h.fm,h.len⟩
theorem Fms.below {W W' : World}{t:Nat}{Y:YLaw}{p:Option Addr}{F:List FarmF}{most:Nat}(h:Fms W t Y p F most)(hb:Below W.heap.size W W'):Fms W' t Y p F most:=h.but (.of_below hb)
theorem Opn.farms {w W:World}{t q g d:Nat}{l:List Int}{r:RY}{Y:YLaw}(h:Opn w W t l q g d r Y)(most:Nat)(hm:most≤4) :
  Calls Tryz.prog 9 #[.pointer (some ⟨t,0,none⟩),.agg (yCells r).toArray,I O (most:Int)] W fun e w' => ∃(p:Option Addr) (F:List FarmF) (cap:Nat) (q' : Nat),e = .returned (.slice p F.length cap)∧F.length≤cap∧Opn w w' t l q' g d r Y∧Fms w' t Y p F most∧But t W w' :=
 (jNA d t l q most r Y W h.tape (fun b k=>by omega) h.yv h.ok hm).mono fun e w' ⟨p,F,cap,fa,q', e1,h1,h2,h3,h4,h5⟩ =>
  ⟨p,F,cap,q', e1,h1,h.next h5.tape h5.but,⟨h2.change mle fun b k _=>⟨rfl,by have:=h.tape.lt;unfold jP at k;omega⟩,h3.fok h.ok (by omega),h3.fm,h4⟩,h5.but⟩
theorem As.Falls.due {l:YLaw}{A:List Awd}(h:Falls l A):Due A:=⟨by have:=h.len;omega,fun a ha=>by have:=h.each a ha;omega⟩
end Go.Proofs.YtefcalgjnkigjaaGreat
namespace Go.Proofs.YtefcalgjnkigjaaGreat
open Go.RowKit Sc As
theorem As.cappeds_take {A:List Awd}{k:Nat}(hk:k<A.length):qP (A.take (k+1))=qP (A.take k) ++ [A[k].capped]:=by
 unfold qP;rw[tsg hk,List.map_append,List.map_singleton]
theorem As.cappeds_len (A:List Awd):(qP A).length=A.length:=by unfold qP;simp
def vNA (L:List Int) (w:World) (e:Ending) (w' : World):Prop:=∃p c,e = .returned (.slice p L.length c)∧qR w' p L∧Below w.heap.size w w'
theorem bV (p:Option Addr)(A:List Awd)(c:Nat)(w:World)(h:qD SA w p A)(hl:A.length≤1000):Calls Tryz.prog 62 #[.slice p A.length c] w (vNA (qP A) w):=by
 have H:=mh h;have hlen:=h.len;clear h
 go_enter Tryz.func62,Tryz.ntmps62
 go_wp2
 go_loopw [3,4] (fun v i wr=>∃k:Nat,k≤A.length∧i=I O k∧qX SI wr 3 w.heap.size v (qP (A.take k))∧Below w.heap.size w wr) (fun _ i _=>A.length - (intOf i).toNat)
 case atStart=>exact⟨0,Nat.zero_le _,rfl,qX.nil _ _ _,brf _ _⟩
 case round =>
  obtain⟨wo,rfl⟩:∃wo:World,wo=wr:=⟨_,rfl⟩;obtain⟨k,hk,rfl,hown,hb⟩:=hrel;have HO:=mh hown;have HB:=mh hb;have hk0:(0:Int)≤(k:Int):=inn _
  by_cases hlt:k<A.length
  ·have hk1:(k:Int)<(A.length:Int):=by omega
   obtain⟨b,off,e,hbl,⟨c0,c1,c2,c3,c4,c5,c6,c7,c8⟩⟩:=gE (H.below hb) hlt
   cases e
   have ST:=mh (cappeds_take hlt);obtain⟨x,ex⟩:∃x,A[k].capped=x:=⟨_,rfl⟩;rw[ex]at c7 ST;have hcl:(qP (A.take k)).length<1073741824:=by rw[cappeds_len,List.length_take];omega
   have HSZ:=mh hb.size;clear ex c0 c1 c2 c3 c4 c5 c6 c8 hb hown
   go_wp2_with (first|(at_builtin;(refine qX.append xR rfl (.tmp 11) (.tmp 17) rfl w.heap.size _ (qP (A.take k)) x #[I O x] rfl HO rfl rfl HSZ hcl (by decide) ?_);intro v5 w5 hO5 hap5;have HO5:=mh hO5;have HB5:=mh (HB.trans hap5.below);clear hO5 hap5)|fail)
   go_roundw
   case rel=>exact⟨k+1,by omega,by go_num,by rw[ST.out];exact HO5.out,HB5.out⟩
   case measure=>simp[intOf];omega
  ·obtain rfl:k=A.length:=by omega
   rw[List.take_length]at HO;obtain⟨p4,c4,rfl, -, -, -, -,hr⟩:=HO.cut (n:=A.length) (cappeds_len A);have HR:=mh hr;clear hb hown hr
   go_wp2
   go_ret
   exact⟨p4,c4,by rw[cappeds_len];rfl,HR.ints,HB.out⟩
def As.ofFarm (A:List Awd) (farm:Int):List Awd:=A.filter fun a=>decide (a.farm=farm)
theorem As.ofFarm_take {A:List Awd}{farm:Int}{k:Nat}(hk:k<A.length):ofFarm (A.take (k+1)) farm=ofFarm (A.take k) farm++if A[k].farm=farm then [A[k]] else []:=by
 unfold ofFarm;rw[tsg hk,List.filter_append]
 congr 1
 by_cases h:A[k].farm=farm
 ·rw[if_pos h];simp[h]
 ·rw[if_neg h];simp[h]
theorem As.ofFarm_total (A:List Awd)(farm:Int):total (ofFarm A farm)=qU A farm:=by
 induction A with
 | nil=>rfl
 | cons a A ih =>
   have e1:qU (a::A) farm=(if a.farm=farm then a.due else 0)+qU A farm:=rfl;rw[e1,← ih];unfold ofFarm
   by_cases h:a.farm=farm
   ·rw[List.filter_cons_of_pos (by simpa using h),if_pos h];rfl
   ·rw[List.filter_cons_of_neg (by simpa using h),if_neg h,Int.zero_add]
def RowG (A:List Awd) (w:World) (e:Ending) (w' : World):Prop:=∃p c,e = .returned (.slice p A.length c)∧qD SA w' p A∧Below w.heap.size w w'
def RowO (A:List Awd) (w:World) (e:Ending) (w' : World):Prop:=∃va,e = .returned va∧qX SA w' 91 w.heap.size va A∧Below w.heap.size w w'
theorem rD (p:Option Addr)(A:List Awd)(c:Nat)(farm:Int)(w:World)(h:qD SA w p A)(hl:A.length≤1000):Calls Tryz.prog 63 #[.slice p A.length c,I O farm] w (RowO (ofFarm A farm) w):=by
 have H:=mh h;have hlen:=h.len;clear h
 go_enter Tryz.func63,Tryz.ntmps63
 go_wp2
 go_loopw [5,6] (fun v i wr=>∃k:Nat,k≤A.length∧i=I O k∧qX SA wr 91 w.heap.size v (ofFarm (A.take k) farm)∧Below w.heap.size w wr) (fun _ i _=>A.length - (intOf i).toNat)
 case atStart=>exact⟨0,Nat.zero_le _,rfl,qX.nil _ _ _,brf _ _⟩
 case round =>
  obtain⟨wo,rfl⟩:∃wo:World,wo=wr:=⟨_,rfl⟩;obtain⟨k,hk,rfl,hown,hb⟩:=hrel;have HO:=mh hown;have HB:=mh hb;have hk0:(0:Int)≤(k:Int):=inn _
  by_cases hlt:k<A.length
  ·have hk1:(k:Int)<(A.length:Int):=by omega
   obtain⟨b,off,e,hbl,⟨c0,c1,c2,c3,c4,c5,c6,c7,c8⟩⟩:=gE (H.below hb) hlt
   cases e
   have ST:=ofFarm_take (farm:=farm) hlt;obtain⟨⟨a1,a2,a3,a4,a5,a6,a7,a8,a9⟩,ea⟩:∃a,A[k]=a:=⟨_,rfl⟩;rw[ea]at c0 c1 c2 c3 c4 c5 c6 c7 c8 ST;simp only at c0 c1 c2 c3 c4 c5 c6 c7 c8 ST;have hcl:(ofFarm (A.take k) farm).length<1073741824:=by
    have:(ofFarm (A.take k) farm).length≤(A.take k).length:=List.length_filter_le _ _;rw[List.length_take]at this;omega
   have HSZ:=mh hb.size
   by_cases hf:a1=farm
   ·have STH:=mh (show ofFarm (A.take (k+1)) farm=ofFarm (A.take k) farm ++ [⟨a1,a2,a3,a4,a5,a6,a7,a8,a9⟩] from by rw[ST,if_pos hf])
    have hfb:(a1==farm)=true:=by simpa using hf
    clear ST ea hb hown hf
    go_wp2_with (first|(at_builtin;(refine qX.append gN rfl (.tmp 20) (.tmp 25) rfl w.heap.size _ (ofFarm (A.take k) farm) ⟨a1,a2,a3,a4,a5,a6,a7,a8,a9⟩ #[I O a1,I O a2,I O a3,I O a4,I O a5,I O a6,I O a7,I O a8,I O a9] rfl HO rfl rfl HSZ hcl (by decide) ?_);intro v5 w5 hO5 hap5;have HO5:=mh hO5;have HB5:=mh (HB.trans hap5.below);clear hO5 hap5)|fail)
    go_roundw
    case rel=>exact⟨k+1,by omega,by go_num,by rw[STH.out];exact HO5.out,HB5.out⟩
    case measure=>simp[intOf];omega
   ·have STH:=mh (show ofFarm (A.take (k+1)) farm=ofFarm (A.take k) farm from by rw[ST,if_neg hf,List.append_nil])
    have hfb:(a1==farm)=false:=by simpa using hf
    clear ST ea hb hown hf
    go_wp2
    go_roundw
    case rel=>exact⟨k+1,by omega,by go_num,by rw[STH.out];exact HO.out,HB.out⟩
    case measure=>simp[intOf];omega
  ·obtain rfl:k=A.length:=by omega
   rw[List.take_length]at HO;obtain⟨p4,c4,rfl, -, -, -, -,hr⟩:=HO.cut rfl;clear hb hown hr
   go_wp2
   go_ret
   exact⟨_,rfl,HO.out,HB.out⟩
theorem qFA (p:Option Addr)(A:List Awd)(c:Nat)(farm:Int)(w:World)(h:qD SA w p A)(hl:A.length≤1000):Calls Tryz.prog 63 #[.slice p A.length c,I O farm] w (RowG (ofFarm A farm) w) :=
 (rD p A c farm w h hl).mono fun e w' ⟨va,he,ho,hb⟩=>by
  obtain⟨q,c1,rfl, -, -, -, -,hr⟩:=ho.cut rfl;exact⟨q,c1,he,hr,hb⟩
theorem As.Due.of {A:List Awd}(h:Due A)(farm:Int):Due (ofFarm A farm) :=
 ⟨Nat.le_trans (List.length_filter_le _ _) h.1,fun a ha=>h.2 a (List.mem_filter.1 ha).1⟩
theorem nK (p:Option Addr)(A:List Awd)(c:Nat)(farm:Int)(w:World)(h:qD SA w p A)(hd:Due A):Calls Tryz.prog 23 #[.slice p A.length c,I O farm] w (kW (qU A farm) w):=by
 have OF:=mh (qFA p A c farm w h hd.1);have TT:=mh (fun (W:World) (q:Option Addr) (c:Nat) (h:qD SA W q (ofFarm A farm))=>uE q (ofFarm A farm) c W h (hd.of farm));have ET:=mh (ofFarm_total A farm);clear h hd
 go_enter Tryz.func23,Tryz.ntmps23
 go_wp2_with (first|(go_at_call 63;(with_reducible refine cmo OF.out ?_);rintro e w1 ⟨q,c1,rfl,hr1,hb1⟩)|(go_at_call 21;(with_reducible refine cmo (TT.out _ _ _ hr1) ?_);rintro e w2 ⟨rfl,rfl⟩)|fail)
 go_ret
 exact⟨by rw[← ET.out];rfl,hb1⟩
theorem uX (p q:Option Addr)(A:List Awd)(c d:Nat)(w:World)(h:qD SA w p A)(k:qD SA w q A):Calls Tryz.prog 19 #[.slice p A.length c,.slice q A.length d] w (yC true w):=by
 have H:=mh h;have K:=mh k;have hlen:=h.len;clear h k
 go_enter Tryz.func19,Tryz.ntmps19
 go_wp2
 go_loopw [5] (fun i wr=>∃k:Nat,k≤A.length∧i=I O k∧Below w.heap.size w wr) (fun i _=>A.length - (intOf i).toNat)
 case atStart=>exact⟨0,Nat.zero_le _,rfl,brf _ _⟩
 case round =>
  obtain⟨wo,rfl⟩:∃wo:World,wo=wr:=⟨_,rfl⟩;obtain⟨k,hk,rfl,hb⟩:=hrel;have HB:=mh hb;have hk0:(0:Int)≤(k:Int):=inn _
  by_cases hlt:k<A.length
  ·have hk1:(k:Int)<(A.length:Int):=by omega
   obtain⟨b,off,e,hbl,⟨c0,c1,c2,c3,c4,c5,c6,c7,c8⟩⟩:=gE (H.below hb) hlt
   cases e
   obtain⟨b', off', e,hbl', ⟨d0,d1,d2,d3,d4,d5,d6,d7,d8⟩⟩:=gE (K.below hb) hlt
   cases e
   obtain⟨⟨a1,a2,a3,a4,a5,a6,a7,a8,a9⟩,ea⟩:∃a,A[k]=a:=⟨_,rfl⟩;rw[ea]at c0 c1 c2 c3 c4 c5 c6 c7 c8 d0 d1 d2 d3 d4 d5 d6 d7 d8;simp only at c0 c1 c2 c3 c4 c5 c6 c7 c8 d0 d1 d2 d3 d4 d5 d6 d7 d8;clear ea hb
   go_wp2
   go_quiet (fail)
   go_wp2
   go_roundw
   case rel=>exact⟨k+1,by omega,by go_num,qH HB HB.size (qQ _ _)⟩
   case measure=>simp[intOf];omega
  ·obtain rfl:k=A.length:=by omega
   clear hb
   go_wp2
   go_ret
   exact⟨rfl,HB.out⟩
theorem bK (p q:Option Addr)(A:List Rsn)(c d:Nat)(w:World)(h:qD SRn w p A)(k:qD SRn w q A):Calls Tryz.prog 26 #[.slice p A.length c,.slice q A.length d] w (yC true w):=by
 have H:=mh h;have K:=mh k;have hlen:=h.len;clear h k
 go_enter Tryz.func26,Tryz.ntmps26
 go_wp2
 go_loopw [5] (fun i wr=>∃k:Nat,k≤A.length∧i=I O k∧Below w.heap.size w wr) (fun i _=>A.length - (intOf i).toNat)
 case atStart=>exact⟨0,Nat.zero_le _,rfl,brf _ _⟩
 case round =>
  obtain⟨wo,rfl⟩:∃wo:World,wo=wr:=⟨_,rfl⟩;obtain⟨k,hk,rfl,hb⟩:=hrel;have HB:=mh hb;have hk0:(0:Int)≤(k:Int):=inn _
  by_cases hlt:k<A.length
  ·have hk1:(k:Int)<(A.length:Int):=by omega
   obtain⟨b,off,e,hbl,c0,c1,c2⟩:=vMA (H.below hb) hlt
   cases e
   obtain⟨b', off', e,hbl', d0,d1,d2⟩:=vMA (K.below hb) hlt
   cases e
   obtain⟨⟨a1,a2,a3⟩,ea⟩:∃a,A[k]=a:=⟨_,rfl⟩;rw[ea]at c0 c1 c2 d0 d1 d2;simp only at c0 c1 c2 d0 d1 d2;clear ea hb
   go_wp2
   go_quiet (fail)
   go_wp2
   go_roundw
   case rel=>exact⟨k+1,by omega,by go_num,qH HB HB.size (qQ _ _)⟩
   case measure=>simp[intOf];omega
  ·obtain rfl:k=A.length:=by omega
   clear hb
   go_wp2
   go_ret
   exact⟨rfl,HB.out⟩
theorem vG {P:Program}{w:World}(base:Nat)(t ty e:TypeId)(i:TypeInfo)(size:Nat)(ht:P.underlying t=some (.slice e))(hi:P.info? e=some i)
  (v:Value) (n c:Nat) (xs:List Value) (hown:w.ownsRow base e size v n xs):(Builtin.append_ #[t,t] ty #[v,.slice none 0 c]).run P w = .ok v w:=by
 rcases hown.2 with⟨rfl,rfl⟩|⟨g,cap,cur,rfl,_,_,hnc,_⟩
 ·simp[Builtin.append_,run_underlying ht,sizeOf,typeInfo,hi,Builtin.lenOf,Builtin.firstCells]
 ·simp[Builtin.append_,run_underlying ht,sizeOf,typeInfo,hi,Builtin.lenOf,Builtin.firstCells,hnc,storeCells]
theorem qX.appendAny {α:Type}{S:jJ α}{P:Program}{T TS:TypeId}{bytes:Nat}(he:fP S P T TS bytes){w:World}{ops:Array Oper}{rest:List Oper}{o:Oper}{a:Act}{Q:Exit→Act→World→Prop}(hgd:o.guard=none)(s x:Operand)
  (ho:o.op = .call { callee := .builtin .append,args:=#[s,x],argTypes:=#[TS,TS] }) (B:Nat) (v:Value) (L M:List α) (p:Option Addr) (c n:Nat) (hM:M.length=n) (hown:qX S w T B v L) (hsrc:qD S w p M) (hs:a.eval s=v)
  (hx:a.eval x = .slice p n c) (hB:B≤w.heap.size) (hn:L.length+n<1073741824) (hby:bytes≤65536)
  (h:∀v' w', qX S w' T B v' (L++M)→jN w w' B w.heap.size v v' → wpList P ops Q rest (a.put o.dst v') w'):wpList P ops Q (o::rest) a w:=by
 cases p with
 | none =>
   subst hM;obtain⟨i0,z,e1,e2,e3,e4,e5⟩:=he.ex;have hM:M = []:=by
    rcases hsrc.2 with h|⟨b,off,h,_⟩
    ·exact h
    ·cases h
   subst hM;have hr:=h v w (by rw[List.append_nil];exact hown) ⟨brf _ _,Nat.le_refl _,fun _ _ _=>rfl,.inl rfl⟩;refine wpList_plain hgd fun K hK=>?_
   have hrun:=vG (P:=P) (w:=w) B TS o.type T i0 S.k he.ts e1 v L.length c (S.flat L) hown;unfold Oper.wp
   simp[execOp,ho,resolve,invoke,builtin,hs,hx,hrun,Result.andThen]
   exact hK _ _ hr
 | some ad=>exact qX.appendAll he hgd s x ho B v L M (some ad) c n hM hown hsrc (fun h=>by cases h) hs hx hB hn hby h
theorem zX.base {ρ β:Type}{S:jJ ρ}{V:(Nat→Prop)→World→ρ→β→Prop}{T:TypeId}{B B' : Nat}{Q:Nat→Prop}{W:World}{v:Value}{R:List ρ}{K:List β}(h:zX S V T B Q W v R K)(hB:B' ≤ B):zX S V T B' Q W v R K :=
 ⟨h.hl,h.own.mono hB,h.oq,h.rows⟩
def CyG (F:List FarmF) (w:World) (e:Ending) (w' : World):Prop :=
 ∃v R,e = .returned v∧zX SF (FVs LVw) 47 w.heap.size (jP w.heap.size) w' v R F∧Below w.heap.size w w'
structure CpI (wo W:World) (gg:Nat) (fa day:Int) (v:Value) (L:List RL) (K:List LineF):Prop where
 fb:Blk W gg #[I O fa,I O day,v] 47
 rw:zX SL LVw 89 (gg+1) (jP (gg+1)) W v L K
 bo:Below wo.heap.size wo W
 le:wo.heap.size≤gg
theorem CpI.push {wo W w6 w7:World}{gg H:Nat}{fa day:Int}{v v7:Value}{L:List RL}{K:List LineF}{r:RL}{x:LineF}(h:CpI wo W gg fa day v L K)(hb:Below W.heap.size W w6)(hv:LVw (jP W.heap.size) w6 r x)
  (hO:qX SL w7 89 (gg+1) v7 (L ++ [r])) (hap:jN w6 w7 (gg+1) H v v7) (hH:w6.heap.size≤H):CpI wo (w7.setCell ⟨gg,2,none⟩ v7) gg fa day v7 (L ++ [r]) (K ++ [x]):=by
 have hgl:=h.fb.lt;have p:=h.rw.push LVw.chgs (Q' := jP (gg+1)) hb.size (fun b q hl=>⟨hb.block b hl,q⟩) hH (fun b q=>by unfold jP;omega) hv hO hap;have b67:Below wo.heap.size w6 w7:=hap.below.mono (by have:=h.le;omega);refine⟨?_,p.change LVw.chgs (by rw[jG];exact Nat.le_refl _) fun b q _=>⟨qB _ (by unfold jP at q;omega) _ _,q⟩,((h.bo.trans (hb.mono h.bo.size)).trans b67).setCell h.le _,h.le⟩;exact(show Blk w7 gg #[I O fa,I O day,v] 47 from(hap.below.block gg (Nat.lt_succ_self gg)).trans (h.fb.below hb)).set 2 v7
theorem LV.lvw {W:World}{B:Nat}{dl ls se ki ar bo:Int}{p:Option Addr}{n c:Nat}{x:LineF}{r:RL}{Q:Nat→Prop}{W0:World}(hv:LV Q W0 ⟨dl,ls,r.dp,r.dn,r.dc,se,ki,ar,bo⟩ x)(hO:qX SI W 3 B (.slice p n c) x.due):LVw (jP B) W ⟨dl,ls,p,n,c,se,ki,ar,bo⟩ x:=by
 obtain⟨p', c', e,h1,h2,h3, -,h5⟩:=hO.cut (n:=x.due.length) rfl
 cases e
 exact⟨⟨hv.decl,hv.sch,h5.ints,rfl,h3,fun e=>(h1 e).1,fun a e => .inr (h2 a e).2.2.1,hv.season,hv.kind,hv.area,hv.border⟩,hO.mono (Nat.zero_le _),fun g e=>(hO.lt e).1⟩
theorem xQA {Q:Nat→Prop}(p:Option Addr)(F:List FarmF)(c:Nat)(w:World)(h:yF Q w p F)(lF:F.length≤1000)(lL:∀f∈F,f.lines.length≤1000∧∀x∈f.lines,x.due.length≤1000) :
  Calls Tryz.prog 57 #[.slice p F.length c] w (CyG F w):=by
 have H:=mh h;have LL:=mh lL;have B0:=mh (brf w.heap.size w);have hlen:=h.len;clear h lL;unfold CyG
 go_enter Tryz.func57,Tryz.ntmps57
 go_wp2_with fail
 go_loopw [3,11] (fun v i W=>∃(k:Nat) (R:List RF),k≤F.length∧i=I O k∧zX SF (FVs LVw) 47 w.heap.size (jP w.heap.size) W v R (F.take k)∧Below w.heap.size w W) (fun _ i _=>F.length - (intOf i).toNat)
 case atStart=>exact⟨0, [],Nat.zero_le _,rfl,zX.nil _ _ _ _ _ _,B0.out⟩
 case round =>
  obtain⟨wo,rfl⟩:∃wo:World,wo=wr:=⟨_,rfl⟩;obtain⟨k,R,hk,rfl,hR,hb⟩:=hrel;have HR:=mh hR;have HB:=mh hb;have hk0:(0:Int)≤(k:Int):=inn _
  by_cases hlt:k<F.length
  ·have hk1:(k:Int)<(F.length:Int):=by omega
   have ST:=mh (tsg hlt);have LK:=mh (LL F[k] (List.getElem_mem hlt));obtain⟨b,off,⟨xf,xd,lp,ln,lc⟩,rfl,hbl,⟨c0,c1,c2⟩,hv⟩:=(H.below hb).at hlt;have e1:=hv.farm;have e2:=hv.day;have e3:=hv.ln;simp only at c0 c1 c2 e1 e2 e3;subst e1 e2 e3;have FL:=mh hv.lines;have FE:=mh (Eq.refl F[k]);obtain⟨f,ef⟩:∃f,F[k]=f:=⟨_,rfl⟩;rw[ef]at c0 c1 c2 ST LK FL;have hll:=LK.1;obtain⟨fa,day,K⟩:=f;simp only at c0 c1 c2 LK FL hll;have hal:=(brf wo.heap.size wo).alloc mle (.cells #[I O fa,I O day,.slice lp K.length lc] 47);have hs1:(wo.alloc (.cells #[I O fa,I O day,.slice lp K.length lc] 47)).heap.size=wo.heap.size+1:=by rw[World.size_alloc]
   have hal2:=(brf (wo.alloc (.cells #[I O fa,I O day,.slice lp K.length lc] 47)).heap.size (wo.alloc (.cells #[I O fa,I O day,.slice lp K.length lc] 47))).alloc mle (.cells #[I O fa,I O day,.slice none 0 0] 47);obtain⟨gf,egf⟩:∃g,wo.heap.size=g:=⟨_,rfl⟩;have EGF:=mh egf
   have I0:=mh (show CpI wo ((wo.alloc (.cells #[I O fa,I O day,.slice lp K.length lc] 47)).alloc (.cells #[I O fa,I O day,.slice none 0 0] 47)) (gf+1) fa day (.slice none 0 0) [] [] from
    ⟨by rw[← egf,← hs1];exact Blk.new _ _ _,zX.nil _ _ _ _ _ _,hal.trans (hal2.mono hal.size),by omega⟩)
   clear hv hb hR hal hal2 hs1 ef
   go_wp2_with fail
   clear egf c0 c1 c2;generalize (wo.alloc (.cells #[I O fa,I O day,.slice lp K.length lc] 47)).alloc (.cells #[I O fa,I O day,.slice none 0 0] 47)=w1 at *
   go_loopw [23] (fun iv W=>∃(m:Nat) (v:Value) (L:List RL),m≤K.length∧iv=I O m∧CpI wo W (gf+1) fa day v L (K.take m)) (fun iv _=>K.length - (intOf iv).toNat)
   case atStart=>exact⟨0,_, [],Nat.zero_le _,rfl,I0.out⟩
   case round =>
    clear I0;obtain⟨wi,rfl⟩:∃wi:World,wi=wr:=⟨_,rfl⟩;obtain⟨m,v,L,hm,rfl,hI⟩:=hrel;have HI:=mh hI;have hm0:(0:Int)≤(m:Int):=inn _;obtain⟨p2,cc2,rfl, -, -, -, -, -⟩:=hI.rw.own.cut (n:=m) (by rw[hI.rw.hl,List.length_take];omega);have g0:=hI.fb.cell 0;have g1:=hI.fb.cell 1;have g2:=hI.fb.cell 2
    by_cases hlt2:m<K.length
    ·have hm1:(m:Int)<(K.length:Int):=by omega
     have ST2:=mh (tsg hlt2);have LD:=mh (LK.2 K[m] (List.getElem_mem hlt2));obtain⟨bl,ol,⟨dl,ls,dp,dn,dc,se,ki,ar,bo⟩,rfl,hbl2,⟨d0,d1,d2,d3,d4,d5,d6⟩,hv2⟩:=(FL.below hI.bo).at hlt2;have e4:=hv2.dn;simp only at d0 d1 d2 d3 d4 d5 d6 e4;subst e4;have HV:=mh hv2;have hba:=(brf wi.heap.size wi).alloc mle (.cells #[I O dl,I O ls,.slice dp K[m].due.length dc,I O se,I O ki,I O ar,I O bo] 89);have HBA:=mh hba;obtain⟨gx,egx⟩:∃g,wi.heap.size=g:=⟨_,rfl⟩;have EGX:=mh egx;have XB:=mh (egx▸Blk.new wi #[I O dl,I O ls,.slice dp K[m].due.length dc,I O se,I O ki,I O ar,I O bo] 89);have DR:=mh ((hv2.due.recs).below hba);have GBA:=mh (hI.fb.below hba);obtain⟨y,ey⟩:∃y,K[m]=y:=⟨_,rfl⟩;rw[ey]at d2 HBA XB HV DR ST2 LD GBA;have hyl:=LD.out;have hlm:=HI.rw.hl;rw[List.length_take]at hlm;have HLM:=mh hlm;clear hv2 hba ey hI hlm
     go_upto_region 10 with (first|(at_builtin;(refine qX.appendAny xR rfl (.const (.slice none 0 0)) (.tmp 28) rfl (gx+1) _ [] y.due dp dc y.due.length rfl (qX.nil _ _ _) DR rfl rfl (by rw[World.size_alloc];have:=EGX.out;omega) (by simp;omega) (by decide) ?_);intro v5 w5 hO5 hap5;rw[List.nil_append]at hO5;obtain⟨p5,c5,rfl, -, -, -, -, -⟩:=hO5.cut (n:=y.due.length) rfl;have O5:=mh hO5;have X5:=mh (show Blk w5 gx #[I O dl,I O ls,.slice dp y.due.length dc,I O se,I O ki,I O ar,I O bo] 89 from(hap5.below.block gx (Nat.lt_succ_self gx)).trans XB);have B5:=mh (show Below gx wi w5 from(HBA.mono (by have:=EGX.out;omega)).trans (hap5.below.mono (Nat.le_succ gx)));have G5:=mh (show Blk w5 (gf+1) #[I O fa,I O day,.slice p2 m cc2] 47 from(hap5.below.block (gf+1) (by have:=HI.fb.lt;have:=EGX.out;omega)).trans GBA);have f2:=X5.fr 2;have q2:=X5.cell 2;clear hO5 hap5)|fail)
     clear f2 q2 g0 g1 g2 d0 d1 d2 d3 d4 d5 d6 egx;have X6:=mh (show Blk (w5.setCell ⟨gx,2,none⟩ (.slice p5 y.due.length c5)) gx #[I O dl,I O ls,.slice p5 y.due.length c5,I O se,I O ki,I O ar,I O bo] 89 from X5.set 2 _);have G6:=mh (show Blk (w5.setCell ⟨gx,2,none⟩ (.slice p5 y.due.length c5)) (gf+1) #[I O fa,I O day,.slice p2 m cc2] 47 from G5.far (by have:=HI.fb.lt;have:=EGX.out;omega) _);have O6:=mh (show qX SI (w5.setCell ⟨gx,2,none⟩ (.slice p5 y.due.length c5)) 3 (gx+1) (.slice p5 y.due.length c5) y.due from O5.blocks fun g _ hB _=>qB _ (by omega) _ _);have B6:=mh (show Below wi.heap.size wi (w5.setCell ⟨gx,2,none⟩ (.slice p5 y.due.length c5)) from by rw[EGX.out];exact B5.setCell mle _);have V6:=mh (show LVw (jP wi.heap.size) (w5.setCell ⟨gx,2,none⟩ (.slice p5 y.due.length c5)) ⟨dl,ls,p5,y.due.length,c5,se,ki,ar,bo⟩ y from LV.lvw (r:=⟨dl,ls,dp,y.due.length,dc,se,ki,ar,bo⟩) HV (O6.mono (by have:=EGX.out;omega)));generalize w5.setCell ⟨gx,2,none⟩ (.slice p5 y.due.length c5)=w6 at *;have x0:=X6.cell 0;have x1:=X6.cell 1;have x2:=X6.cell 2;have x3:=X6.cell 3;have x4:=X6.cell 4;have x5:=X6.cell 5;have x6:=X6.cell 6;have g2:=G6.cell 2;have OW:=mh (HI.rw.own.below B6)
     go_wp2_with (first|(at_builtin;(refine qX.append yUA rfl (.tmp 32) (.tmp 34) rfl (gf+1+1) _ L ⟨dl,ls,p5,y.due.length,c5,se,ki,ar,bo⟩ #[I O dl,I O ls,.slice p5 y.due.length c5,I O se,I O ki,I O ar,I O bo] rfl OW rfl (by simp[Act.eval]) (show gf+1<w6.heap.size from G6.lt) (by have:=HLM.out;omega) (by decide) ?_);intro v7 w7 hO7 hap7;obtain⟨p7,c7,rfl, -, -, -, -, -⟩:=hO7.cut (n:=m+1) (by rw[lap,HLM.out];simp;omega);have HP:=mh (HI.push B6 V6 hO7 hap7 (Nat.le_succ _));have G7:=mh (show Blk w7 (gf+1) #[I O fa,I O day,.slice p2 m cc2] 47 from(hap7.below.block (gf+1) (Nat.lt_succ_self _)).trans G6);have f2:=G7.fr 2;have q2:=G7.cell 2;clear hO7 hap7)|fail)
     go_roundw
     case rel=>exact⟨m+1,_,_,by omega,by go_num,by rw[ST2.out];exact HP.out⟩
     case measure=>simp[intOf];omega
    ·obtain rfl:m=K.length:=by omega
     have hI' := hI;rw[List.take_length]at hI'; have OWF:=mh (HR.own.below hI.bo);have BI:=mh (HB.trans (hI.bo.mono HB.size));have FI:=mh (show FVs LVw (jP wo.heap.size) wi ⟨fa,day,p2,K.length,cc2⟩ ⟨fa,day,K⟩ from⟨rfl,rfl,L,(hI'.rw.base (Nat.zero_le _)).change LVw.chgs mle fun b q _=>⟨rfl,by have:=EGF.out;unfold jP at q ⊢;omega⟩⟩);have HRL:=mh (show R.length≤1000 by rw[HR.out.hl,List.length_take];omega);clear hI hI'
     go_wp2_with (first|(at_builtin;(refine qX.append kU rfl (.tmp 38) (.tmp 40) rfl w.heap.size _ R ⟨fa,day,p2,K.length,cc2⟩ #[I O fa,I O day,.slice p2 K.length cc2] rfl OWF rfl (by simp[Act.eval]) BI.size (by have:=HRL.out;omega) (by decide) ?_);intro v8 w8 hO8 hap8;have PU:=mh (HR.push (FVs.chgs LVw.chgs) (Q' := jP w.heap.size) HI.bo.size (fun b q hl=>⟨HI.bo.block b hl,q⟩) (Nat.le_succ _) (fun b q=>Nat.le_trans HB.size q) FI hO8 hap8);have B8:=mh (BI.trans hap8.below);clear hO8 hap8)|fail)
     go_roundw
     case rel=>exact⟨k+1,_,by omega,by go_num,by rw[ST.out];exact PU.out,B8.out⟩
     case measure=>simp[intOf];omega
  ·obtain rfl:k=F.length:=by omega
   rw[List.take_length]at hR;have HR2:=mh hR;clear hR hb
   go_wp2_with fail
   go_ret
   exact⟨_,R,rfl,HR2.out,HB.out⟩
theorem qX.len {α:Type}{S:jJ α}{w:World}{T:TypeId}{B n c:Nat}{p:Option Addr}{L:List α}(h:qX S w T B (.slice p n c) L):n=L.length:=by
 rcases h.2 with⟨hv,hn⟩|⟨g,cap,cur,hv,_⟩
 ·cases hv;omega
 ·cases hv;rfl
section
variable {Q:Nat→Prop} {w w5 w' W:World} {T:TypeId} {B n c g:Nat} {p:Option Addr} {R:List RF} {F:List FarmF}
theorem zX.setDay {V:(Nat→Prop)→World→RL→LineF→Prop}(hV:wH V)(h:zX SF (FVs V) T B Q W (.slice (some ⟨g,0,none⟩) n c) R F){k:Nat}(hk:k<R.length)(hk' : k<F.length)(day:Int) :
  zX SF (FVs V) T B Q (W.setCell ⟨g,k*3+1,none⟩ (I O day)) (.slice (some ⟨g,0,none⟩) n c) (R.set k { R[k] with day:=day }) (F.set k { F[k] with day:=day }):=by
 obtain⟨φ,h1,h2,h3⟩:=h.upd (FVs.chgs hV) hk hk'; obtain⟨g', e, -, -, -, -, -,hst⟩:=h.own.at hk
 cases e
 have hsz:(W.setCell ⟨g,k*3+1,none⟩ (I O day)).heap.size=W.heap.size:=jG _ _ _;have far:∀b,b≠g→(W.setCell ⟨g,k*3+1,none⟩ (I O day)).heap[b]?=W.heap[b]?:=fun b hb=>qB _ hb _ _
 refine h3 _ { R[k] with day:=day } { F[k] with day:=day } φ Q (by rw[hsz];exact Nat.le_refl _) (hst 1 _ _ (by show 1<3;omega) rfl) ?_ (fun b q=>⟨.inl q,(h2 b q).1⟩) fun b q _=>⟨fun _ hn=>far b (fun e=>hn (by rw[e];rfl)),q⟩
 exact⟨h1.farm,rfl,h1.lines.imp fun L hL=>hL.change hV (by rw[hsz];exact Nat.le_refl _) fun b q _=>⟨far b fun e=>(h2 b q).2 (by rw[e];rfl),q⟩⟩
end
section
variable {w W W' : World} {t q q' gy:Nat} {l:List Int} {ya:Array Value} {v v' : Value} {R R' : List RF} {G G' : List FarmF}
end
end Go.Proofs.YtefcalgjnkigjaaGreat
namespace Go.Proofs.YtefcalgjnkigjaaGreat
open Go.RowKit Sc As
section
variable {Q:Nat→Prop} {W:World} {g n c k:Nat} {p:Option Addr} {L:List RL} {X:List LineF}
theorem zX.fld (h:zX SL LVw 89 0 Q W (.slice (some ⟨g,0,none⟩) n c) L X)(hk:k<L.length)(hk' : k<X.length){i:Nat}(hi:i<7){u:Value}(a:RL)(x:LineF)(ha:jS a=(jS L[k]).set i u)
  (hx:∀φ W,LVw φ W L[k] X[k]→LVw φ W a x):zX SL LVw 89 0 Q (W.setCell ⟨g,k*7+i,none⟩ u) (.slice (some ⟨g,0,none⟩) n c) (L.set k a) (X.set k x):=by
 obtain⟨φ,h1,h2,h3⟩:=h.upd LVw.chgs hk hk'; obtain⟨g', e, -, -, -, -, -,hst⟩:=h.own.at hk
 cases e
 have hsz:(W.setCell ⟨g,k*7+i,none⟩ u).heap.size=W.heap.size:=jG _ _ _;have far:∀b,b≠g→(W.setCell ⟨g,k*7+i,none⟩ u).heap[b]?=W.heap[b]?:=fun b hb=>qB _ hb _ _
 exact h3 _ a x φ Q (by rw[hsz];exact Nat.le_refl _) (hst i _ _ hi ha) (hx _ _ (LVw.chgs _ _ _ _ _ _ h1 (by rw[hsz];exact Nat.le_refl _) fun b q _=>⟨far b fun e=>(h2 b q).2 (by rw[e];rfl),q⟩)) (fun b q=>⟨.inl q,(h2 b q).1⟩) fun b q _=>⟨fun _ hn=>far b (fun e=>hn (by rw[e];rfl)),q⟩
theorem zX.due0 (h:zX SL LVw 89 0 Q W (.slice p n c) L X)(hk:k<L.length)(hk' : k<X.length)(hd:0<X[k].due.length) :
  ∃gd,L[k].dp=some ⟨gd,0,none⟩∧L[k].dn=X[k].due.length∧Q gd∧W.cell? ⟨gd,0,none⟩=some (I O X[k].due[0])∧W.frozen? ⟨gd,0,none⟩=false ∧
    ∀v:Int,zX SL LVw 89 0 Q (W.setCell ⟨gd,0,none⟩ (I O v)) (.slice p n c) L (X.set k { X[k] with due:=X[k].due.set 0 v }):=by
 obtain⟨φ,h1,h2,h3⟩:=h.upd LVw.chgs hk hk'; obtain⟨hl,ho,hq⟩:=h1;obtain⟨gd,e,en, -, -,hc,hf,hst⟩:=ho.at hd;have qd:=h2 gd (hq gd (by rw[e];rfl));refine⟨gd,e,hl.dn,qd.1,hc 0 _ rfl,hf 0,fun v=>?_⟩;have hsz:(W.setCell ⟨gd,0,none⟩ (I O v)).heap.size=W.heap.size:=jG _ _ _;have far:∀b,b≠gd→(W.setCell ⟨gd,0,none⟩ (I O v)).heap[b]?=W.heap[b]?:=fun b hb=>qB _ hb _ _
 have hO:=hst 0 (I O v) v (by show 0<1;omega) rfl;have hL:qX SL (W.setCell ⟨gd,0,none⟩ (I O v)) 89 0 (.slice p n c) L:=h.own.blocks fun g eg _ _=>far g fun e=>qd.2 (by rw[eg,e])
 obtain⟨p', c', e', g1,g2,g3, -,g5⟩:=hO.cut (n:=X[k].due.length) (by rw[List.length_set]);have:=h3 (W.setCell ⟨gd,0,none⟩ (I O v)) L[k] { X[k] with due:=X[k].due.set 0 v } φ Q (by rw[hsz];exact Nat.le_refl _) (by rw[List.set_getElem_self];exact hL) ?_ (fun b q=>⟨.inl q,(h2 b q).1⟩) fun b q _=>⟨fun hn _=>far b fun e2=>hn (hq b (by rw[e,e2];rfl)),q⟩
 ·rwa [List.set_getElem_self]at this
 ·refine⟨⟨hl.decl,hl.sch,?_,?_,hl.dc,hl.dz,fun a ea => .inr (hq _ (by rw[ea];rfl)),hl.season,hl.kind,hl.area,hl.border⟩,hO,hq⟩
  ·obtain⟨ep, -, -⟩:=Value.slice.inj e'
   exact ep▸g5.ints
  ·show _=(X[k].due.set 0 v).length
   rw[List.length_set];exact hl.dn
end
theorem qX.up {α:Type}{S:jJ α}{w:World}{T:TypeId}{B:Nat}{v:Value}{L:List α}(h:qX S w T 0 v L)(hq:∀g,v.ownBlock=some g→B≤g):qX S w T B v L:=by
 rcases h.2 with⟨hv,hn⟩|⟨g,cap,cur,hv, -,hr⟩
 ·exact⟨h.1,.inl ⟨hv,hn⟩⟩
 ·exact⟨h.1,.inr ⟨g,cap,cur,hv,hq g (by rw[hv];rfl),hr⟩⟩
section
variable {Q:Nat→Prop} {W w5:World} {g n c k H:Nat} {p:Option Addr} {L:List RL} {X:List LineF}
theorem zX.dueApp (h:zX SL LVw 89 0 Q W (.slice (some ⟨g,0,none⟩) n c) L X)(hk:k<L.length)(hk' : k<X.length){y:Int}{p5:Option Addr}{n5 c5:Nat}
  {B:Nat} (hO:qX SI w5 3 B (.slice p5 n5 c5) (X[k].due ++ [y])) (ha:jN W w5 B H (.slice L[k].dp L[k].dn L[k].dc) (.slice p5 n5 c5)) (hH:W.heap.size≤H) :
  zX SL LVw 89 0 (fun b=>Q b∨W.heap.size≤b) (w5.setCell ⟨g,k*7+2,none⟩ (.slice p5 n5 c5)) (.slice (some ⟨g,0,none⟩) n c) (L.set k { L[k] with dp:=p5,dn:=n5,dc:=c5 }) (X.set k { X[k] with due:=X[k].due ++ [y] }):=by
 obtain⟨φ,h1,h2,h3⟩:=h.upd LVw.chgs hk hk'; obtain⟨hl,ho,hq⟩:=h1;have hgl:g<W.heap.size:=(h.own.lt rfl).2;have gne:(Value.slice L[k].dp L[k].dn L[k].dc).ownBlock≠some g:=fun e=>(h2 g (hq g e)).2 rfl
 have own5:qX SL w5 89 0 (.slice (some ⟨g,0,none⟩) n c) L:=h.own.blocks fun b eb _ hl2=>by cases eb;exact ha.far g hgl gne
 obtain⟨g', e, -, -, -, -, -,hst⟩:=own5.at hk
 cases e
 have hsz:(w5.setCell ⟨g,k*7+2,none⟩ (.slice p5 n5 c5)).heap.size=w5.heap.size:=jG _ _ _;have nb:∀b,(Value.slice p5 n5 c5).ownBlock=some b→(φ b∨W.heap.size≤b)∧b≠g:=fun b eb=>by
  rcases ha.block with e|e
  ·rw[e]at eb;exact⟨.inl (hq b eb),fun e2=>gne (by rw[← e2];exact eb)⟩
  ·rw[e]at eb;cases eb;exact⟨.inr hH,by omega⟩
 obtain⟨p', c', e', g1,g2,g3, -,g5⟩:=hO.cut (n:=n5) hO.len.symm
 cases e'
 have hn5:n5=(X[k].due ++ [y]).length:=hO.len;have hO' := hO.blocks (w' := w5.setCell ⟨g,k*7+2,none⟩ (.slice p5 n5 c5)) fun b eb _ _=>qB _ (nb b eb).2 _ _
 refine h3 _ { L[k] with dp:=p5,dn:=n5,dc:=c5 } { X[k] with due:=X[k].due ++ [y] } (fun b=>φ b∨W.heap.size≤b) _ (by rw[hsz];exact ha.size) (hst 2 _ _ (by show 2<7;omega) rfl) ?_ (fun b q=>⟨q,q.imp (fun q=>(h2 b q).1) id⟩) fun b q hl2=>⟨fun hn hb=>(qB _ (fun e=>hb (by rw[e];rfl)) _ _).trans (ha.far b hl2 fun e=>hn (hq b e)),.inl q⟩
 have g5' := g5.blocks (w' := w5.setCell ⟨g,k*7+2,none⟩ (.slice p5 n5 c5)) (by rw[hsz];exact Nat.le_refl _) fun a ea => .inr (qB _ (nb a.block (by subst ea;obtain⟨s1,s2, -, -⟩:=g2 a rfl;obtain⟨x,y2,z⟩:=a;simp only at s1 s2;subst s1 s2;rfl)).2 _ _)
 exact⟨⟨hl.decl,hl.sch,g5'.ints,hn5,g3,fun e=>(g1 e).1,fun a ea => .inr ((nb a.block (by subst ea;obtain⟨s1,s2, -, -⟩:=g2 a rfl;obtain⟨x,y2,z⟩:=a;simp only at s1 s2;subst s1 s2;rfl)).1),hl.season,hl.kind,hl.area,hl.border⟩,hO'.mono (Nat.zero_le _),fun b eb=>(nb b eb).1⟩
end
section
variable {Q:Nat→Prop} {W W' : World} {T:TypeId} {B n c g:Nat} {p:Option Addr} {v:Value} {R:List RF} {F:List FarmF} {L' : List RL} {K' : List LineF}
theorem zX.setFarm {V:(Nat→Prop)→World→RL→LineF→Prop}(hV:wH V)(h:zX SF (FVs V) T B Q W (.slice (some ⟨g,0,none⟩) n c) R F){k:Nat}(hk:k<R.length)(hk' : k<F.length)(x:Int) :
  zX SF (FVs V) T B Q (W.setCell ⟨g,k*3,none⟩ (I O x)) (.slice (some ⟨g,0,none⟩) n c) (R.set k { R[k] with farm:=x }) (F.set k { F[k] with farm:=x }):=by
 obtain⟨φ,h1,h2,h3⟩:=h.upd (FVs.chgs hV) hk hk'; obtain⟨g', e, -, -, -, -, -,hst⟩:=h.own.at hk
 cases e
 have hsz:(W.setCell ⟨g,k*3,none⟩ (I O x)).heap.size=W.heap.size:=jG _ _ _;have far:∀b,b≠g→(W.setCell ⟨g,k*3,none⟩ (I O x)).heap[b]?=W.heap[b]?:=fun b hb=>qB _ hb _ _
 refine h3 _ { R[k] with farm:=x } { F[k] with farm:=x } φ Q (by rw[hsz];exact Nat.le_refl _) (hst 0 _ _ (by show 0<3;omega) rfl) ?_ (fun b q=>⟨.inl q,(h2 b q).1⟩) fun b q _=>⟨fun _ hn=>far b (fun e=>hn (by rw[e];rfl)),q⟩
 exact⟨rfl,h1.day,h1.lines.imp fun L hL=>hL.change hV (by rw[hsz];exact Nat.le_refl _) fun b q _=>⟨far b fun e=>(h2 b q).2 (by rw[e];rfl),q⟩⟩
theorem zX.inner (h:zX SF (FVs LVw) T B Q W v R F){k:Nat}(hk:k<R.length)(hk' : k<F.length):∃(φ:Nat→Prop) (L:List RL),zX SL LVw 89 0 φ W (.slice R[k].lp R[k].ln R[k].lc) L F[k].lines∧(∀b,φ b→Q b∧v.ownBlock≠some b) ∧
  ∀(W' : World) (L' : List RL) (K' : List LineF),W.heap.size≤W'.heap.size→(∀b,b<W.heap.size→¬φ b→W'.heap[b]?=W.heap[b]?)→(∀b,W.heap.size≤b→Q b)→zX SL LVw 89 0 (fun b=>φ b∨W.heap.size≤b) W' (.slice R[k].lp R[k].ln R[k].lc) L' K' → zX SF (FVs LVw) T B Q W' v R (F.set k { F[k] with lines:=K' }):=by
 obtain⟨φ,h1,h2,h3⟩:=h.upd (FVs.chgs LVw.chgs) hk hk'; obtain⟨L,hL⟩:=h1.lines;refine⟨φ,L,hL,h2,fun W' L' K' hs hb hQ hN=>?_⟩;have:=h3 W' R[k] { F[k] with lines:=K' } (fun b=>φ b∨W.heap.size≤b) Q hs (by rw[List.set_getElem_self];exact h.own.blocks fun b eb _ hl=>hb b hl fun q=>(h2 b q).2 eb) ⟨h1.farm,h1.day,L', hN⟩ (fun b q=>⟨q,q.elim (fun q=>(h2 b q).1) (hQ b)⟩) fun b q hl=>⟨fun hn _=>hb b hl hn,q⟩
 rwa [List.set_getElem_self]at this
theorem zX.wide {V:(Nat→Prop)→World→RL→LineF→Prop}(hV:wH V){Q2:Nat→Prop}{L:List RL}{K:List LineF}(h:zX SL V T B Q W v L K)(hq:∀b,Q b→Q2 b):zX SL V T B Q2 W v L K:=h.change hV mle fun b q _=>⟨rfl,hq b q⟩
end
end Go.Proofs.YtefcalgjnkigjaaGreat
