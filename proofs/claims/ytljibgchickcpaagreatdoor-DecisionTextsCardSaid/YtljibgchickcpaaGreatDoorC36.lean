/- Packed. -/
import Derived.Test.YtljibgchickcpaaGreatDoorC35
set_option maxRecDepth 100000
set_option maxHeartbeats 8000000
open Go.Value renaming int → I
open Go.IntKind renaming i64 → O
namespace Go.Proofs.YtljibgchickcpaaGreatDoor
open Go.RowKit Sc As
section
variable {w W W' : World} {t q q' g g3 d:Nat} {l:List Int} {r:RY} {Y:YLaw}
theorem LawV.tg (h:LawV w W t l q g g3 d r Y):t<g:=by have:=h.ord;have:=h.tp.lt;omega
theorem LawV.next (h:LawV w W t l q g g3 d r Y)(ht:TapeAt W' t l q')(hb:But t W W'):LawV w W' t l q' g g3 d r Y:=by
 have h1:=h.tg;have h2:=h.ord;have h3:=h.tp.lt;exact⟨h.tp.next ht hb,h.res.but hb (by omega),h.vb.but hb (by omega),h.yv.change hb.size fun b k hl=>⟨hb.block b hl (by have:=k.1;omega),k⟩,h.ok,h.len,h.due,h.sm,h2⟩
theorem LawV.set (h:LawV w W t l q g g3 d r Y)(i:Nat)(u:Value){r' : RY}{Y' : YLaw}(hr:(yCells r).toArray.setIfInBounds i u=(yCells r').toArray)(hy:∀W', YV (fun b=>w.heap.size≤b∧b≠g∧b≠g3) W' d r Y→YV (fun b=>w.heap.size≤b∧b≠g∧b≠g3) W' d r' Y')(ho:YOk Y')(hs:Y'.sch=Y.sch)(hl:Y'.late=Y.late) :
  LawV w (W.setCell ⟨g3,i,none⟩ u) t l q g g3 d r' Y' :=by
 have h2:=h.ord;exact⟨h.tp.set (by omega) u,h.res.far (by omega) u,hr▸h.vb.set i u,hy _ (h.yv.change (by simp[World.setCell]) fun b k _=>⟨setCell_far _ k.2.2 _ _,k⟩),ho,by rw[hs];exact h.len,by rw[hl];exact h.due,by rw[hs];exact h.sm,h2⟩
theorem LawV.capd (h:LawV w W t l q g g3 d r Y)(c:Int)(h0:0≤c)(h1:c≤68719476736):LawV w (W.setCell ⟨g3,6,none⟩ (I O c)) t l q g g3 d { r with cap:=c } { Y with cap:=c } :=
 h.set 6 _ rfl (fun _ k=>⟨k.sch,k.sn,k.sc,k.steps,k.tn,k.tq,k.due,k.last,k.mille,k.deg,k.gn,k.gq,rfl,k.env,k.unit,k.width,k.small,k.terms⟩) ⟨h.ok.ne,h.ok.sch,h.ok.steps,h.ok.late,h.ok.deg,⟨h0,h1⟩,h.ok.env,h.ok.unit,h.ok.width⟩ rfl rfl
theorem LawV.env (h:LawV w W t l q g g3 d r Y)(c:Int)(h0:0≤c)(h1:c≤68719476736):LawV w (W.setCell ⟨g3,7,none⟩ (I O c)) t l q g g3 d { r with env:=c } { Y with env:=c } :=
 h.set 7 _ rfl (fun _ k=>⟨k.sch,k.sn,k.sc,k.steps,k.tn,k.tq,k.due,k.last,k.mille,k.deg,k.gn,k.gq,k.cap,rfl,k.unit,k.width,k.small,k.terms⟩) ⟨h.ok.ne,h.ok.sch,h.ok.steps,h.ok.late,h.ok.deg,h.ok.cap,⟨h0,h1⟩,h.ok.unit,h.ok.width⟩ rfl rfl
theorem LawV.fin (h:LawV w W t l q g g3 d r Y)(u0 u1 u2 u3 u4 u5 u6 u7 u8 u9:Value):YV (NewQ w.heap.size) (put10 W g u0 u1 u2 u3 u4 u5 u6 u7 u8 u9) d r Y∧TpB w (put10 W g u0 u1 u2 u3 u4 u5 u6 u7 u8 u9) t l q :=
 ⟨h.yv.change (by rw[put10_sz];exact Nat.le_refl _) fun b k _=>⟨put10_far _ k.2.1 _ _ _ _ _ _ _ _ _ _,k.1⟩,h.tp.belowB (put10_low (brf _ _) h.ord.1 _ _ _ _ _ _ _ _ _ _)⟩
end
def LawG (t:Nat) (l:List Int) (w:World) (e:Ending) (w' : World):Prop :=
 ∃(d:Nat) (r:RY) (Y:YLaw) (q:Nat),e = .returned (.agg (yCells r).toArray)∧YV (NewQ w.heap.size) w' d r Y∧YOk Y∧Y.sch.length≤3∧Y.late.due<40∧(∀s∈Y.sch,SmallS s)∧TpB w w' t l q
theorem law2_any (t:Nat)(l:List Int)(a:Nat)(w:World)(h:TapeAt w t l a):Calls Tryz.prog 24 #[.pointer (some ⟨t,0,none⟩)] w (LawG t l w):=by
 obtain⟨g,eg⟩:∃g,w.heap.size=g:=⟨_,rfl⟩
 have J0:=mh (show LwJ w (w.alloc (.cells #[.slice none 0 0,.slice none 0 0,I O 0,I O 0,I O 0,.slice none 0 0,I O 0,I O 0,I O 0,I O 0] 58)).drew t l g ⟨a,0,none,0, [],none,0, [],0,0,0,none,0, [],0,0,0,0,0,0,0⟩ 0 false false false from by
  have hb:=((brf w.heap.size w).alloc mle (.cells #[.slice none 0 0,.slice none 0 0,I O 0,I O 0,I O 0,.slice none 0 0,I O 0,I O 0,I O 0,I O 0] 58)).drew
  exact⟨(TpB.init h).below hb,(eg▸Blk.new w _ _).below (brf _ _).drew,by omega,(fun e=>by omega),(fun e=>by omega),(fun e=>by omega),(fun e=>by omega),(fun e=>by omega),(fun e=>by omega),(fun e=>by omega),(fun e=>by omega),(fun e=>by cases e),(fun e=>by cases e),(fun e=>by cases e)⟩)
 clear h
 go_enter Tryz.func24,Tryz.ntmps24
 go_upto_region 1 with fail
 clear eg;generalize w.alloc (.cells #[.slice none 0 0,.slice none 0 0,I O 0,I O 0,I O 0,.slice none 0 0,I O 0,I O 0,I O 0,I O 0] 58)=w0 at *
 go_cut [3] (fun s3 wx=>∃(g3 q d:Nat) (r:RY) (Y:YLaw),s3 = .pointer (some ⟨g3,0,none⟩)∧LawV w wx t l q g g3 d r Y)
 case first =>
  refine wp_region_held_drew (S:=fun _=>True) (by kernel_rfl) trivial (fun _=>?_)
  show wpAnyH Tryz.prog .any lawOps _ (fun _=>True) 22 #[false,false,false,false,false,false,false,false,false,false,false,false,false,false,false,false,false,false,false,false,false,false] _ _
  refine tkC 0 4 (fun _ _ _ h=>h) ?_
  simp only[Act.put,mnA,mnB,mnC];refine tkC 2 6 (fun _ _ _ h=>h) ?_;simp only[Act.put,mnA,mnB,mnC];refine tkC 4 8 (fun _ _ _ h=>h) ?_;simp only[Act.put,mnA,mnB,mnC];refine tkC 6 10 (fun _ _ _ h=>h) ?_;simp only[Act.put,mnA,mnB,mnC];refine tkC 8 12 (fun _ _ _ h=>h) ?_;simp only[Act.put,mnA,mnB,mnC];refine tkC 10 14 (fun _ _ _ h=>h) ?_;simp only[Act.put,mnA,mnB,mnC];refine tkC 13 17 (fun _ _ _ h=>h) ?_;simp only[Act.put,mnA,mnB,mnC];refine tkC 17 21 (fun _ _ _ h=>h) ?_;simp only[Act.put,mnA,mnB,mnC];refine lawN0000 J0.out ⟨fun S W J=>?_,fun _ _ s _ _ h=>by cases s<;>exact h⟩;have J9:=mh J.lawV
  go_wp2_with fail
  go_meet
  exact⟨_,_,_,_,_,rfl,J9.out⟩
 case rest =>
  clear J0;obtain⟨g3,q,d,⟨sp,sn,sc,tp,tn,tc,ldue,llast,lmille,gp,gn,gc,cp,ev,un,wd⟩,Y,rfl,hL⟩:=hcut;have L1:=mh hL;obtain⟨c1,ec1⟩:∃c,(gives l q 2==2 - 1)=c:=⟨_,rfl⟩;have T1:=mh (one_any t l q 2 wc hL.tp.tape (by omega) (by omega));rw[ec1]at T1;clear ec1 hL;generalize taken l q=q' at *
  go_wp2_with fail
  (with_reducible refine cmo T1.out ?_);rintro e w2 ⟨rfl,ht2,hb2⟩;have L2:=mh (L1.out.next ht2 hb2);clear ht2 hb2
  cases c1
  ·obtain⟨c2,ec2⟩:∃c,(gives l q' 2==2 - 1)=c:=⟨_,rfl⟩
   have T2:=mh (one_any t l q' 2 w2 L2.out.tp.tape (by omega) (by omega));rw[ec2]at T2;clear ec2;generalize taken l q' = q2 at *
   go_wp2_with fail
   (with_reducible refine cmo T2.out ?_);rintro e w4 ⟨rfl,ht4,hb4⟩;have L4:=mh (L2.out.next ht4 hb4);clear ht4 hb4
   cases c2
   ·have VB:=L4.out.vb
    simp only[yCells]at VB;have k0:=VB.cell 0;have k1:=VB.cell 1;have k2:=VB.cell 2;have k3:=VB.cell 3;have k4:=VB.cell 4;have k5:=VB.cell 5;have k6:=VB.cell 6;have k7:=VB.cell 7;have k8:=VB.cell 8;have k9:=VB.cell 9;clear VB;have z0:=L4.out.res.cell 0;have z1:=L4.out.res.cell 1;have z2:=L4.out.res.cell 2;have z3:=L4.out.res.cell 3;have z4:=L4.out.res.cell 4;have z5:=L4.out.res.cell 5;have z6:=L4.out.res.cell 6;have z7:=L4.out.res.cell 7;have z8:=L4.out.res.cell 8;have z9:=L4.out.res.cell 9;have f0:=L4.out.res.fr 0;have f1:=L4.out.res.fr 1;have f2:=L4.out.res.fr 2;have f3:=L4.out.res.fr 3;have f4:=L4.out.res.fr 4;have f5:=L4.out.res.fr 5;have f6:=L4.out.res.fr 6;have f7:=L4.out.res.fr 7;have f8:=L4.out.res.fr 8;have f9:=L4.out.res.fr 9;have BF:=mh (put10_blk L4.out.res ⟨_,_,_,_,_,_,_,_,_,_,rfl⟩ (.slice sp sn sc) (.slice tp tn tc) (I O ldue) (I O llast) (I O lmille) (.slice gp gn gc) (I O cp) (I O ev) (I O un) (I O wd));have PF:=mh (L4.out.fin (.slice sp sn sc) (.slice tp tn tc) (I O ldue) (I O llast) (I O lmille) (.slice gp gn gc) (I O cp) (I O ev) (I O un) (I O wd));have OK:=mh (And.intro L4.out.ok (And.intro L4.out.len (And.intro L4.out.due L4.out.sm)))
    go_wp2
    unfold put10 at BF PF;generalize ((((((((((w4.setCell ⟨g,0,none⟩ (.slice sp sn sc)).setCell ⟨g,1,none⟩ (.slice tp tn tc)).setCell ⟨g,2,none⟩ (I O ldue)).setCell ⟨g,3,none⟩ (I O llast)).setCell ⟨g,4,none⟩ (I O lmille)).setCell ⟨g,5,none⟩ (.slice gp gn gc)).setCell ⟨g,6,none⟩ (I O cp)).setCell ⟨g,7,none⟩ (I O ev)).setCell ⟨g,8,none⟩ (I O un)).setCell ⟨g,9,none⟩ (I O wd))=wf at *;have d0:=BF.out.cell 0;have d1:=BF.out.cell 1;have d2:=BF.out.cell 2;have d3:=BF.out.cell 3;have d4:=BF.out.cell 4;have d5:=BF.out.cell 5;have d6:=BF.out.cell 6;have d7:=BF.out.cell 7;have d8:=BF.out.cell 8;have d9:=BF.out.cell 9;exact bodyPost_ret (v := .agg #[.slice sp sn sc,.slice tp tn tc,I O ldue,I O llast,I O lmille,.slice gp gn gc,I O cp,I O ev,I O un,I O wd]) (by simp[results,Tryz.results24,go_sem,d0,d1,d2,d3,d4,d5,d6,d7,d8,d9]) rfl ⟨_,⟨sp,sn,sc,tp,tn,tc,ldue,llast,lmille,gp,gn,gc,cp,ev,un,wd⟩,_,_,rfl,PF.out.1,OK.out.1,OK.out.2.1,OK.out.2.2.1,OK.out.2.2.2,PF.out.2⟩
   ·have VB7:=L4.out.vb
    simp only[yCells]at VB7;have k7:=VB7.cell 7;clear VB7;have m7:=L4.out.vb.fr 7;have L5:=mh (L4.out.env 10000000 (by omega) (by omega))
    go_upto_region 6 with fail
    generalize w4.setCell ⟨g3,7,none⟩ (I O 10000000)=w5 at *;clear k7 m7;have VB:=L5.out.vb;simp only[yCells]at VB;have k0:=VB.cell 0;have k1:=VB.cell 1;have k2:=VB.cell 2;have k3:=VB.cell 3;have k4:=VB.cell 4;have k5:=VB.cell 5;have k6:=VB.cell 6;have k7:=VB.cell 7;have k8:=VB.cell 8;have k9:=VB.cell 9;clear VB;have z0:=L5.out.res.cell 0;have z1:=L5.out.res.cell 1;have z2:=L5.out.res.cell 2;have z3:=L5.out.res.cell 3;have z4:=L5.out.res.cell 4;have z5:=L5.out.res.cell 5;have z6:=L5.out.res.cell 6;have z7:=L5.out.res.cell 7;have z8:=L5.out.res.cell 8;have z9:=L5.out.res.cell 9;have f0:=L5.out.res.fr 0;have f1:=L5.out.res.fr 1;have f2:=L5.out.res.fr 2;have f3:=L5.out.res.fr 3;have f4:=L5.out.res.fr 4;have f5:=L5.out.res.fr 5;have f6:=L5.out.res.fr 6;have f7:=L5.out.res.fr 7;have f8:=L5.out.res.fr 8;have f9:=L5.out.res.fr 9;have BF:=mh (put10_blk L5.out.res ⟨_,_,_,_,_,_,_,_,_,_,rfl⟩ (.slice sp sn sc) (.slice tp tn tc) (I O ldue) (I O llast) (I O lmille) (.slice gp gn gc) (I O cp) (I O 10000000) (I O un) (I O wd));have PF:=mh (L5.out.fin (.slice sp sn sc) (.slice tp tn tc) (I O ldue) (I O llast) (I O lmille) (.slice gp gn gc) (I O cp) (I O 10000000) (I O un) (I O wd));have OK:=mh (And.intro L5.out.ok (And.intro L5.out.len (And.intro L5.out.due L5.out.sm)))
    go_wp2
    unfold put10 at BF PF;generalize ((((((((((w5.setCell ⟨g,0,none⟩ (.slice sp sn sc)).setCell ⟨g,1,none⟩ (.slice tp tn tc)).setCell ⟨g,2,none⟩ (I O ldue)).setCell ⟨g,3,none⟩ (I O llast)).setCell ⟨g,4,none⟩ (I O lmille)).setCell ⟨g,5,none⟩ (.slice gp gn gc)).setCell ⟨g,6,none⟩ (I O cp)).setCell ⟨g,7,none⟩ (I O 10000000)).setCell ⟨g,8,none⟩ (I O un)).setCell ⟨g,9,none⟩ (I O wd))=wf at *;have d0:=BF.out.cell 0;have d1:=BF.out.cell 1;have d2:=BF.out.cell 2;have d3:=BF.out.cell 3;have d4:=BF.out.cell 4;have d5:=BF.out.cell 5;have d6:=BF.out.cell 6;have d7:=BF.out.cell 7;have d8:=BF.out.cell 8;have d9:=BF.out.cell 9;exact bodyPost_ret (v := .agg #[.slice sp sn sc,.slice tp tn tc,I O ldue,I O llast,I O lmille,.slice gp gn gc,I O cp,I O 10000000,I O un,I O wd]) (by simp[results,Tryz.results24,go_sem,d0,d1,d2,d3,d4,d5,d6,d7,d8,d9]) rfl ⟨_,⟨sp,sn,sc,tp,tn,tc,ldue,llast,lmille,gp,gn,gc,cp,10000000,un,wd⟩,_,_,rfl,PF.out.1,OK.out.1,OK.out.2.1,OK.out.2.2.1,OK.out.2.2.2,PF.out.2⟩
  ·have VB6:=L2.out.vb
   simp only[yCells]at VB6;have k6:=VB6.cell 6;clear VB6;have m6:=L2.out.vb.fr 6;have L3:=mh (L2.out.capd 1000000 (by omega) (by omega))
   go_upto_region 4 with fail
   generalize w2.setCell ⟨g3,6,none⟩ (I O 1000000)=w3 at *;clear k6 m6;obtain⟨c2,ec2⟩:∃c,(gives l q' 2==2 - 1)=c:=⟨_,rfl⟩;have T2:=mh (one_any t l q' 2 w3 L3.out.tp.tape (by omega) (by omega));rw[ec2]at T2;clear ec2;generalize taken l q' = q2 at *
   go_wp2_with fail
   (with_reducible refine cmo T2.out ?_);rintro e w4 ⟨rfl,ht4,hb4⟩;have L4:=mh (L3.out.next ht4 hb4);clear ht4 hb4
   cases c2
   ·have VB:=L4.out.vb
    simp only[yCells]at VB;have k0:=VB.cell 0;have k1:=VB.cell 1;have k2:=VB.cell 2;have k3:=VB.cell 3;have k4:=VB.cell 4;have k5:=VB.cell 5;have k6:=VB.cell 6;have k7:=VB.cell 7;have k8:=VB.cell 8;have k9:=VB.cell 9;clear VB;have z0:=L4.out.res.cell 0;have z1:=L4.out.res.cell 1;have z2:=L4.out.res.cell 2;have z3:=L4.out.res.cell 3;have z4:=L4.out.res.cell 4;have z5:=L4.out.res.cell 5;have z6:=L4.out.res.cell 6;have z7:=L4.out.res.cell 7;have z8:=L4.out.res.cell 8;have z9:=L4.out.res.cell 9;have f0:=L4.out.res.fr 0;have f1:=L4.out.res.fr 1;have f2:=L4.out.res.fr 2;have f3:=L4.out.res.fr 3;have f4:=L4.out.res.fr 4;have f5:=L4.out.res.fr 5;have f6:=L4.out.res.fr 6;have f7:=L4.out.res.fr 7;have f8:=L4.out.res.fr 8;have f9:=L4.out.res.fr 9;have BF:=mh (put10_blk L4.out.res ⟨_,_,_,_,_,_,_,_,_,_,rfl⟩ (.slice sp sn sc) (.slice tp tn tc) (I O ldue) (I O llast) (I O lmille) (.slice gp gn gc) (I O 1000000) (I O ev) (I O un) (I O wd));have PF:=mh (L4.out.fin (.slice sp sn sc) (.slice tp tn tc) (I O ldue) (I O llast) (I O lmille) (.slice gp gn gc) (I O 1000000) (I O ev) (I O un) (I O wd));have OK:=mh (And.intro L4.out.ok (And.intro L4.out.len (And.intro L4.out.due L4.out.sm)))
    go_wp2
    unfold put10 at BF PF;generalize ((((((((((w4.setCell ⟨g,0,none⟩ (.slice sp sn sc)).setCell ⟨g,1,none⟩ (.slice tp tn tc)).setCell ⟨g,2,none⟩ (I O ldue)).setCell ⟨g,3,none⟩ (I O llast)).setCell ⟨g,4,none⟩ (I O lmille)).setCell ⟨g,5,none⟩ (.slice gp gn gc)).setCell ⟨g,6,none⟩ (I O 1000000)).setCell ⟨g,7,none⟩ (I O ev)).setCell ⟨g,8,none⟩ (I O un)).setCell ⟨g,9,none⟩ (I O wd))=wf at *;have d0:=BF.out.cell 0;have d1:=BF.out.cell 1;have d2:=BF.out.cell 2;have d3:=BF.out.cell 3;have d4:=BF.out.cell 4;have d5:=BF.out.cell 5;have d6:=BF.out.cell 6;have d7:=BF.out.cell 7;have d8:=BF.out.cell 8;have d9:=BF.out.cell 9;exact bodyPost_ret (v := .agg #[.slice sp sn sc,.slice tp tn tc,I O ldue,I O llast,I O lmille,.slice gp gn gc,I O 1000000,I O ev,I O un,I O wd]) (by simp[results,Tryz.results24,go_sem,d0,d1,d2,d3,d4,d5,d6,d7,d8,d9]) rfl ⟨_,⟨sp,sn,sc,tp,tn,tc,ldue,llast,lmille,gp,gn,gc,1000000,ev,un,wd⟩,_,_,rfl,PF.out.1,OK.out.1,OK.out.2.1,OK.out.2.2.1,OK.out.2.2.2,PF.out.2⟩
   ·have VB7:=L4.out.vb
    simp only[yCells]at VB7;have k7:=VB7.cell 7;clear VB7;have m7:=L4.out.vb.fr 7;have L5:=mh (L4.out.env 10000000 (by omega) (by omega))
    go_upto_region 6 with fail
    generalize w4.setCell ⟨g3,7,none⟩ (I O 10000000)=w5 at *;clear k7 m7;have VB:=L5.out.vb;simp only[yCells]at VB;have k0:=VB.cell 0;have k1:=VB.cell 1;have k2:=VB.cell 2;have k3:=VB.cell 3;have k4:=VB.cell 4;have k5:=VB.cell 5;have k6:=VB.cell 6;have k7:=VB.cell 7;have k8:=VB.cell 8;have k9:=VB.cell 9;clear VB;have z0:=L5.out.res.cell 0;have z1:=L5.out.res.cell 1;have z2:=L5.out.res.cell 2;have z3:=L5.out.res.cell 3;have z4:=L5.out.res.cell 4;have z5:=L5.out.res.cell 5;have z6:=L5.out.res.cell 6;have z7:=L5.out.res.cell 7;have z8:=L5.out.res.cell 8;have z9:=L5.out.res.cell 9;have f0:=L5.out.res.fr 0;have f1:=L5.out.res.fr 1;have f2:=L5.out.res.fr 2;have f3:=L5.out.res.fr 3;have f4:=L5.out.res.fr 4;have f5:=L5.out.res.fr 5;have f6:=L5.out.res.fr 6;have f7:=L5.out.res.fr 7;have f8:=L5.out.res.fr 8;have f9:=L5.out.res.fr 9;have BF:=mh (put10_blk L5.out.res ⟨_,_,_,_,_,_,_,_,_,_,rfl⟩ (.slice sp sn sc) (.slice tp tn tc) (I O ldue) (I O llast) (I O lmille) (.slice gp gn gc) (I O 1000000) (I O 10000000) (I O un) (I O wd));have PF:=mh (L5.out.fin (.slice sp sn sc) (.slice tp tn tc) (I O ldue) (I O llast) (I O lmille) (.slice gp gn gc) (I O 1000000) (I O 10000000) (I O un) (I O wd));have OK:=mh (And.intro L5.out.ok (And.intro L5.out.len (And.intro L5.out.due L5.out.sm)))
    go_wp2
    unfold put10 at BF PF;generalize ((((((((((w5.setCell ⟨g,0,none⟩ (.slice sp sn sc)).setCell ⟨g,1,none⟩ (.slice tp tn tc)).setCell ⟨g,2,none⟩ (I O ldue)).setCell ⟨g,3,none⟩ (I O llast)).setCell ⟨g,4,none⟩ (I O lmille)).setCell ⟨g,5,none⟩ (.slice gp gn gc)).setCell ⟨g,6,none⟩ (I O 1000000)).setCell ⟨g,7,none⟩ (I O 10000000)).setCell ⟨g,8,none⟩ (I O un)).setCell ⟨g,9,none⟩ (I O wd))=wf at *;have d0:=BF.out.cell 0;have d1:=BF.out.cell 1;have d2:=BF.out.cell 2;have d3:=BF.out.cell 3;have d4:=BF.out.cell 4;have d5:=BF.out.cell 5;have d6:=BF.out.cell 6;have d7:=BF.out.cell 7;have d8:=BF.out.cell 8;have d9:=BF.out.cell 9;exact bodyPost_ret (v := .agg #[.slice sp sn sc,.slice tp tn tc,I O ldue,I O llast,I O lmille,.slice gp gn gc,I O 1000000,I O 10000000,I O un,I O wd]) (by simp[results,Tryz.results24,go_sem,d0,d1,d2,d3,d4,d5,d6,d7,d8,d9]) rfl ⟨_,⟨sp,sn,sc,tp,tn,tc,ldue,llast,lmille,gp,gn,gc,1000000,10000000,un,wd⟩,_,_,rfl,PF.out.1,OK.out.1,OK.out.2.1,OK.out.2.2.1,OK.out.2.2.2,PF.out.2⟩
end Go.Proofs.YtljibgchickcpaaGreatDoor
namespace Go.Proofs.YtljibgchickcpaaGreatDoor
open Go.RowKit Sc As
structure RowsR {ρ β:Type} (S:Shape ρ) (V:(Nat→Prop)→World→ρ→β→Prop) (T:TypeId) (B:Nat) (W:World) (v:Value) (R:List ρ) (K:List β):Prop where
 hl:R.length=K.length
 own:OwnR S W T B v R
 rows:∀k (h:k<R.length) (h' : k<K.length),V (Qx B v none) W R[k] K[k]
def Chgs {ρ β:Type} (V:(Nat→Prop)→World→ρ→β→Prop):Prop:=∀(Q Q' : Nat→Prop) (w w' : World) (r:ρ) (x:β),V Q w r x→w.heap.size≤w'.heap.size→(∀b,Q b→b<w.heap.size→w'.heap[b]?=w.heap[b]?∧Q' b)→V Q' w' r x
theorem LV.chgs:Chgs LV:=fun _ _ _ _ _ _ h hs hb=>h.change hs hb
theorem FV.chgs:Chgs FV:=fun _ _ _ _ _ _ h hs hb=>h.change hs hb
section
variable {ρ β:Type} {S:Shape ρ} {V:(Nat→Prop)→World→ρ→β→Prop} {T:TypeId} {B t G:Nat} {W w' w5 w6:World} {v v6:Value} {R:List ρ} {K:List β} {r:ρ} {x:β}
theorem RowsR.nil (S:Shape ρ)(V:(Nat→Prop)→World→ρ→β→Prop)(T:TypeId)(B:Nat)(W:World):RowsR S V T B W (.slice none 0 0) [] []:=⟨rfl,OwnR.nil _ _ _,fun k h=>by simp at h⟩
theorem RowsR.blocks (hV:Chgs V)(h:RowsR S V T B W v R K)(hs:W.heap.size≤w'.heap.size)(hb:∀b,B≤b→b<W.heap.size→w'.heap[b]?=W.heap[b]?):RowsR S V T B w' v R K :=
 ⟨h.hl,h.own.blocks fun g _ h3 h4=>hb g h3 h4,fun k a b=>hV _ _ _ _ _ _ (h.rows k a b) hs fun b q hl=>⟨hb b q.1 hl,q⟩⟩
theorem RowsR.below (hV:Chgs V)(h:RowsR S V T B W v R K)(hb:Below W.heap.size W w'):RowsR S V T B w' v R K:=h.blocks hV hb.size fun b _ hl=>hb.block b hl
theorem RowsR.but (hV:Chgs V)(h:RowsR S V T B W v R K)(hb:But t W w')(ht:t<B):RowsR S V T B w' v R K:=h.blocks hV hb.size fun b h1 hl=>hb.block b hl (by omega)
theorem RowsR.setLow {g i:Nat}(hV:Chgs V)(h:RowsR S V T B W v R K)(hg:g<B)(u:Value):RowsR S V T B (W.setCell ⟨g,i,none⟩ u) v R K :=
 h.blocks hV (by rw[setCell_sz];exact Nat.le_refl _) fun b h1 _=>setCell_far _ (by omega) _ _
theorem RowsR.push (hV:Chgs V)(h:RowsR S V T B W v R K)(hB:B≤W.heap.size)(hb:But t W w5)(ht:t<B)(hG:w5.heap.size≤G)(hv:V (NewQ W.heap.size) w5 r x)
  (hO:OwnR S w6 T B v6 (R ++ [r])) (hap:Appends w5 w6 B G v v6):RowsR S V T B w6 v6 (R ++ [r]) (K ++ [x]):=by
 have hsz:W.heap.size≤w6.heap.size:=Nat.le_trans hb.size hap.size;refine⟨by rw[lap,lap,h.hl];rfl,hO,fun k a b=>?_⟩
 by_cases hlt:k<R.length
 ·rw[List.getElem_append_left hlt,List.getElem_append_left (by rw[← h.hl];exact hlt)]
  refine hV _ _ _ _ _ _ (h.rows k hlt (by rw[← h.hl];exact hlt)) hsz fun b q hl=>?_
  have hl5:=nll hl hb.size;exact⟨(hap.far b hl5 q.2.1).trans (hb.block b hl (by have:=q.1;omega)),q.1,hap.apart hG hl5 q.2.1,fun e=>by cases e⟩
 ·have ek:k=R.length:=by rw[lap]at a;simp at a;omega
  subst ek;rw[List.getElem_append_right mle,List.getElem_append_right (by rw[h.hl];exact Nat.le_refl _)];simp only[Nat.sub_self,h.hl,List.getElem_cons_zero];refine hV _ _ _ _ _ _ hv hap.size fun b q hl=>?_
  have hn:v.ownBlock≠some b:=fun e=>by have:=(h.own.lt e).2;unfold NewQ at q;omega
  exact⟨hap.far b hl hn,by unfold NewQ at q;omega,hap.apart hG hl hn,fun e=>by cases e⟩
end
theorem RowsR.lines {B:Nat}{W:World}{v:Value}{R:List RL}{K:List LineF}(h:RowsR SL LV 67 B W v R K){n:Nat}(hn:K.length=n):∃p c,v = .slice p n c∧n≤c∧(p=none→c=0)∧LsAt (fun b=>B≤b) W p K:=by
 obtain⟨p,c,e,h1,h2,h3, -,h5⟩:=h.own.cut (h.hl.trans hn);exact⟨p,c,e,h3,fun e=>(h1 e).1,⟨R,h.hl,h5,fun k a b=>(h.rows k a b).change mle fun b q _=>⟨rfl,q.1⟩⟩,fun a ea => .inr (h2 a ea).2.2.1⟩
theorem RowsR.farms {B:Nat}{W:World}{v:Value}{R:List RF}{K:List FarmF}(h:RowsR SF FV 71 B W v R K){n:Nat}(hn:K.length=n):∃p c,v = .slice p n c∧n≤c∧(p=none→c=0)∧FsAt (fun b=>B≤b) W p K:=by
 obtain⟨p,c,e,h1,h2,h3, -,h5⟩:=h.own.cut (h.hl.trans hn);exact⟨p,c,e,h3,fun e=>(h1 e).1,⟨R,h.hl,h5,fun k a b=>(h.rows k a b).change mle fun b q _=>⟨rfl,q.1⟩⟩,fun a ea => .inr (h2 a ea).2.2.1⟩
structure FmOk (Y:YLaw) (f:FarmF):Prop where
 ok:FarmOk Y f
 len:f.lines.length≤3
 decl:∀x∈f.lines,x.decl<120
 day:f.day<60
 pos:∀x∈f.lines,0≤x.sch
structure LsOk (Y:YLaw) (K:List LineF) (m:Nat):Prop where
 len:K.length≤m
 line:∀x∈K,LineOk Y x
 decl:∀x∈K,x.decl<120
 pos:∀x∈K,0≤x.sch
theorem LsOk.nil (Y:YLaw)(m:Nat):LsOk Y [] m:=⟨Nat.zero_le _,(fun x h=>by cases h),(fun x h=>by cases h),(fun x h=>by cases h)⟩
theorem LsOk.snoc {Y:YLaw}{K:List LineF}{m:Nat}{x:LineF}(h:LsOk Y K m)(hm:K.length<m)(hx:LineOk Y x)(hd:x.decl<120∧0≤x.sch):LsOk Y (K ++ [x]) m :=
 ⟨by rw[lap];exact hm,fun y hy=>(List.mem_append.1 hy).elim (h.line y) fun h=>by rw[List.mem_singleton.1 h];exact hx,fun y hy=>(List.mem_append.1 hy).elim (h.decl y) fun h=>(by rw[List.mem_singleton.1 h];exact hd.1),fun y hy=>(List.mem_append.1 hy).elim (h.pos y) fun h=>by rw[List.mem_singleton.1 h];exact hd.2⟩
theorem LsOk.farm {Y:YLaw}{K:List LineF}{fa day:Int}(h:LsOk Y K 3)(h0:1≤fa)(h1:fa≤60)(d0:0≤day)(d1:day<60):FmOk Y ⟨fa,day,K⟩:=by
 have hl:=h.len;refine⟨⟨h0,h1,d0,by show day≤_;omega,by show K.length≤20;omega,h.line,?_⟩,h.len,h.decl,d1,h.pos⟩;have hs:Sh.sum (K.map (·.decl))≤120*(K.map (·.decl)).length:=Sh.sum_le_len fun x hx=>by
  obtain⟨y,hy,rfl⟩:=List.mem_map.1 hx;have:=h.decl y hy;omega
 rw[List.length_map]at hs
 show declSum K≤268435456
 unfold declSum;omega
structure FmsOk (Y:YLaw) (F:List FarmF) (fa:Int):Prop where
 fm:∀f∈F,FmOk Y f
 asc:∀i (h:i+1<F.length),F[i].farm<F[i+1].farm
 last:∀f∈F,f.farm≤fa
 f0:0≤fa
 f1:fa≤3*F.length
theorem FmsOk.nil (Y:YLaw):FmsOk Y [] 0:=⟨(fun f h=>by cases h),(fun i h=>by simp at h),(fun f h=>by cases h),Int.le_refl _,by simp⟩
theorem FmsOk.snoc {Y:YLaw}{F:List FarmF}{fa:Int}{f:FarmF}(h:FmsOk Y F fa)(hf:FmOk Y f)(h0:fa<f.farm)(h1:f.farm≤fa+3):FmsOk Y (F ++ [f]) f.farm:=by
 have hf0:=h.f0;have hf1:=h.f1;refine⟨fun y hy=>(List.mem_append.1 hy).elim (h.fm y) fun h=>by rw[List.mem_singleton.1 h];exact hf,fun i hi=>?_,fun y hy=>(List.mem_append.1 hy).elim (fun hy=>by have:=h.last y hy;omega) fun h=>by rw[List.mem_singleton.1 h];exact Int.le_refl _,by omega,by rw[lap,List.length_singleton];omega⟩;rw[lap,List.length_singleton]at hi
 by_cases e:i+1=F.length
 ·rw[List.getElem_append_left (by omega),List.getElem_append_right (by omega)]
  have:=h.last _ (List.getElem_mem (show i<F.length by omega));simp only[e,Nat.sub_self,List.getElem_cons_zero];omega
 ·rw[List.getElem_append_left (by omega),List.getElem_append_left (by omega)]
  exact h.asc i (by omega)
theorem FmsOk.fok {Y:YLaw}{F:List FarmF}{fa:Int}(h:FmsOk Y F fa)(hy:YOk Y)(hl:F.length≤10):FOk Y F:=⟨hy,hl,fun f hf=>(h.fm f hf).ok,h.asc⟩
end Go.Proofs.YtljibgchickcpaaGreatDoor
namespace Go.Proofs.YtljibgchickcpaaGreatDoor
open Go.RowKit Sc As
structure FmO (w W:World) (t:Nat) (l:List Int) (q gy:Nat) (ya:Array Value) (v:Value) (R:List RF) (F:List FarmF):Prop where
 tp:TpB w W t l q
 yb:Blk W gy ya 58
 ro:RowsR SF FV 71 (gy+1) W v R F
 ord:w.heap.size≤gy
structure FmI (w wo W:World) (t:Nat) (l:List Int) (q gy gf:Nat) (ya:Array Value) (fa day:Int) (v:Value) (R:List RL) (K:List LineF):Prop where
 tp:TpB w W t l q
 yb:Blk W gy ya 58
 fb:Blk W gf #[I O fa,I O day,v] 71
 rw:RowsR SL LV 67 (gf+1) W v R K
 bo:But t wo W
 ord:t<gy∧gy<gf∧wo.heap.size≤gf∧w.heap.size≤gf
section
variable {w wo W W' w5 wa w7:World} {t q q' gy gf:Nat} {l:List Int} {ya:Array Value} {fa day:Int} {v v' : Value} {R:List RL} {K:List LineF} {r:RL} {x:LineF}
theorem FmO.next {R:List RF}{F:List FarmF}(h:FmO w W t l q gy ya v R F)(ht:TapeAt W' t l q')(hb:But t W W'):FmO w W' t l q' gy ya v R F:=by
 have:=h.tp.lt;have:=h.ord;exact⟨h.tp.next ht hb,h.yb.but hb (by omega),h.ro.but FV.chgs hb (by omega),h.ord⟩
theorem FmI.init {R:List RF}{F:List FarmF}{vo:Value}(h:FmO w W t l q gy ya vo R F)(fa day:Int):FmI w W (W.alloc (.cells #[I O fa,I O day,.slice none 0 0] 71)) t l q gy W.heap.size ya fa day (.slice none 0 0) [] []:=by
 have hb:=(brf W.heap.size W).alloc mle (.cells #[I O fa,I O day,.slice none 0 0] 71);have:=h.tp.lt;have:=h.ord;exact⟨h.tp.below hb,h.yb.below hb,Blk.new _ _ _,RowsR.nil _ _ _ _ _,.of_below hb,by omega,h.yb.lt,Nat.le_refl _,h.tp.but.size⟩
theorem FmI.next (h:FmI w wo W t l q gy gf ya fa day v R K)(ht:TapeAt W' t l q')(hb:But t W W'):FmI w wo W' t l q' gy gf ya fa day v R K:=by
 have:=h.ord;exact⟨h.tp.next ht hb,h.yb.but hb (by omega),h.fb.but hb (by omega),h.rw.but LV.chgs hb (by omega),h.bo.trans hb,h.ord⟩
theorem FmI.mid {H:Nat}(h:FmI w wo W t l q gy gf ya fa day v R K)(hb:But t W.drew w5)(hA:Below w5.heap.size w5 wa)(hap:Appends wa w7 (gf+1) H v v'):Blk w7 gf #[I O fa,I O day,v] 71:=by
 have:=h.ord;have h1:Blk w5 gf #[I O fa,I O day,v] 71:=(h.fb.below (brf _ _).drew).but hb (by omega);exact(hap.below.block gf (Nat.lt_succ_self gf)).trans (h1.below hA)
theorem FmI.push (h:FmI w wo W t l q gy gf ya fa day v R K)(hb:But t W.drew w5)(ht:TapeAt w5 t l q')(hv:LV (NewQ W.drew.heap.size) w5 r x)(hA:Below w5.heap.size w5 wa)
  (hO:OwnR SL w7 67 (gf+1) v' (R ++ [r])) (hap:Appends wa w7 (gf+1) wa.heap.size v v'):FmI w wo (w7.setCell ⟨gf,2,none⟩ v') t l q' gy gf ya fa day v' (R ++ [r]) (K ++ [x]):=by
 have ho:=h.ord;have hfl:=h.fb.lt;have hd:=h.rw.below LV.chgs (brf W.heap.size W).drew;have hsz:W.heap.size≤w5.heap.size:=hb.size;have rr:=hd.push LV.chgs (show gf+1≤W.drew.heap.size from hfl) (hb.nxt hA) (by omega) mle (hv.below hA) hO hap;have b5:But t W w5:=(But.of_below (brf W.heap.size W).drew).trans hb;have ha5:=hA.size;have low:Below (gf+1) w5 w7:=(hA.mono (by omega)).trans hap.below;have low2:Below gf w5 (w7.setCell ⟨gf,2,none⟩ v'):=(low.mono (Nat.le_succ gf)).setCell mle _;have tw:=h.tp.lt;refine⟨⟨ht.belowB low2 (by omega),(h.tp.but.trans b5).stpB low2 ho.2.2.2,tw⟩,?_,?_,rr.setLow LV.chgs (Nat.lt_succ_self gf) _,?_,ho⟩
 ·exact(low2.block gy ho.2.1).trans (h.yb.but b5 (by omega))
 ·exact(h.mid hb hA hap).set 2 v'
 ·exact(h.bo.trans b5).stpB low2 ho.2.2.1
end
def FrmG (t:Nat) (l:List Int) (Y:YLaw) (most:Nat) (w:World) (e:Ending) (w' : World):Prop :=
 ∃(p:Option Addr) (F:List FarmF) (cap:Nat) (fa:Int) (q:Nat),e = .returned (.slice p F.length cap)∧F.length≤cap∧FsAt (NewQ w.heap.size) w' p F∧FmsOk Y F fa∧F.length≤most∧TpB w w' t l q
theorem farms2_any {Q:Nat→Prop}(d t:Nat)(l:List Int)(a0 most:Nat)(r:RY)(Y:YLaw)(w:World)(h:TapeAt w t l a0)(hQ:∀b,Q b→b≠t)(hY:YV Q w d r Y)(hl:YOk Y)(hm:most≤4) :
  Calls Tryz.prog 25 #[.pointer (some ⟨t,0,none⟩),.agg (yCells r).toArray,I O (most:Int)] w (FrmG t l Y most w):=by
 have LN:=mh (fun (W:World) (q:Nat) (hp:TpB w W t l q)=>line2_any d t l q r Y W hp.tape hQ (hY.sch.change hp.but.size fun b k hl=>⟨hp.but.block b hl (hQ b k),k⟩) hY.sn hl);obtain⟨sp,sn,sc,tp,tn,tc,ldue,llast,lmille,gp,gn,gc,cp,ev,un,wd⟩:=r;simp only[yCells]at LN ⊢;have H0:=mh (TpB.init h);have TN:=mh (fun (W:World) (q:Nat) (n:Int) (h:TapeAt W t l q) (hn:n≤9223372036854775807)=>next_any t l q n W h hn);have TR:=mh (fun (W:World) (q:Nat) (h:TapeAt W t l q)=>range_any t l q 1 3 W h (by omega) (by omega) (by omega));obtain⟨gy,eg⟩:∃g,w.heap.size=g:=⟨_,rfl⟩;have O0:=mh (show FmO w (w.alloc (.cells #[.slice sp sn sc,.slice tp tn tc,I O ldue,I O llast,I O lmille,.slice gp gn gc,I O cp,I O ev,I O un,I O wd] 58)) t l a0 gy #[.slice sp sn sc,.slice tp tn tc,I O ldue,I O llast,I O lmille,.slice gp gn gc,I O cp,I O ev,I O un,I O wd] (.slice none 0 0) [] [] from⟨H0.out.alloc _,eg▸Blk.new _ _ _,RowsR.nil _ _ _ _ _,by omega⟩);have hmi:(most:Int)≤4:=by omega
 obtain⟨n0,en0⟩:∃x,gives l a0 ((most:Int)+1)=x:=⟨_,rfl⟩;have hn0:=gives_bd l a0 (n:=(most:Int)+1) (by omega);rw[en0]at hn0;have T0:=mh (en0▸TN.out _ a0 ((most:Int)+1) O0.out.tp.tape (by omega));obtain⟨N0,rfl⟩:=Int.eq_ofNat_of_zero_le hn0.1;have hN0:N0≤most:=by omega
 clear h hY hl hQ en0 hn0
 go_enter Tryz.func25,Tryz.ntmps25
 go_wp2_with fail
 clear eg;generalize w.alloc (.cells #[.slice sp sn sc,.slice tp tn tc,I O ldue,I O llast,I O lmille,.slice gp gn gc,I O cp,I O ev,I O un,I O wd] 58)=w0 at *;(with_reducible refine cmo T0.out ?_);rintro e w1 ⟨rfl,ht1,hb1⟩;have O1:=mh (O0.out.next ht1 hb1);clear ht1 hb1 O0 T0
 go_wp2_with fail
 go_loopw [7,8,9] (fun vo fv nv W=>∃(N:Nat) (fa:Int) (F:List FarmF) (R:List RF) (q:Nat),nv=I O N∧fv=I O fa∧N+F.length≤most∧FmsOk Y F fa∧FmO w W t l q gy #[.slice sp sn sc,.slice tp tn tc,I O ldue,I O llast,I O lmille,.slice gp gn gc,I O cp,I O ev,I O un,I O wd] vo R F) (fun _ _ n _=>(intOf n).toNat)
 case atStart=>exact⟨N0,0, [], [],_,rfl,rfl,by simpa using hN0,FmsOk.nil _,O1.out⟩
 case round =>
  clear O1;obtain⟨wo,rfl⟩:∃wo:World,wo=wr:=⟨_,rfl⟩;obtain⟨N,fa,F,R,q,rfl,rfl,hN,hF,hO⟩:=hrel;have HO:=mh hO;have HF:=mh hF;have hf0:=hF.f0;have hf1:=hF.f1;have hNi:(0:Int)≤(N:Int):=inn _;clear hO hF
  rcases Nat.eq_zero_or_pos N with hz|hz
  ·subst hz
   rw[show((0:Nat):Int)=0 from rfl];obtain⟨p,c,rfl,hc, -,hFs⟩:=HO.out.ro.farms rfl;have HFs:=mh (And.intro hc hFs);clear hc hFs
   go_wp2_with fail
   go_ret
   exact⟨p,F,c,fa,q,rfl,HFs.out.1,HFs.out.2.change mle fun b k _=>⟨rfl,by have:=HO.out.ord;unfold NewQ;omega⟩,HF.out,by omega,HO.out.tp⟩
  ·obtain⟨M,rfl⟩:∃M,N=M+1:=⟨N - 1,by omega⟩
   have hMi:(0:Int)<((M+1:Nat):Int):=by omega
   obtain⟨g1,eg1⟩:∃x:Int,1+gives l q (3 - 1+1)=x:=⟨_,rfl⟩;have hg1:=gives_bd l q (n:=3 - 1+1) (by omega);obtain⟨q1,eq1⟩:∃x,taken l q=x:=⟨_,rfl⟩;have T1:=mh (eq1▸eg1▸TR.out wo q HO.out.tp.tape);have hga:1≤g1∧g1≤3:=by omega
   clear eg1 eq1 hg1;obtain⟨fa2,efa⟩:∃x:Int,fa+g1=x:=⟨_,rfl⟩;have hwf:IntKind.i64.wrap (fa+g1)=fa2:=by rw[IntKind.wrap_i64];omega
   have HFA:=mh (show fa<fa2∧fa2≤fa+3∧1≤fa2∧fa2≤60 by omega);clear efa
   go_wp2_with fail
   (with_reducible refine cmo T1.out ?_);rintro e w2 ⟨rfl,ht2,hb2⟩;have O2:=mh (HO.out.next ht2 hb2);clear ht2 hb2 T1;obtain⟨day,ed⟩:∃x:Int,gives l q1 60=x:=⟨_,rfl⟩;have hd:=gives_bd l q1 (n:=60) (by omega);rw[ed]at hd;obtain⟨q2,eq2⟩:∃x,taken l q1=x:=⟨_,rfl⟩;have T2:=mh (eq2▸ed▸TN.out w2 q1 60 O2.out.tp.tape (by omega));have HD:=mh hd;clear ed eq2 hd
   go_wp2_with fail
   (with_reducible refine cmo T2.out ?_);rintro e w3 ⟨rfl,ht3,hb3⟩;have O3:=mh (O2.out.next ht3 hb3);clear ht3 hb3 T2;have I0:=mh (FmI.init O3.out fa2 day);obtain⟨n3,en3⟩:∃x:Int,gives l q2 4=x:=⟨_,rfl⟩;have hn3:=gives_bd l q2 (n:=4) (by omega);rw[en3]at hn3;have T3:=mh (en3▸TN.out _ q2 4 I0.out.tp.tape (by omega));obtain⟨N3,rfl⟩:=Int.eq_ofNat_of_zero_le hn3.1;have hN3:N3≤3:=by omega
   clear en3 hn3;obtain⟨gf,egf⟩:∃g,w3.heap.size=g:=⟨_,rfl⟩;rw[egf]at I0
   go_wp2_with fail
   clear egf;generalize w3.alloc (.cells #[I O fa2,I O day,.slice none 0 0] 71)=w4 at *;(with_reducible refine cmo T3.out ?_);rintro e w6 ⟨rfl,ht6,hb6⟩;have I1:=mh (I0.out.next ht6 hb6);clear ht6 hb6 T3 I0
   go_wp2_with fail
   go_loopw [11] (fun kv W=>∃(m q:Nat) (v:Value) (K:List LineF) (R:List RL),kv=I O m∧m+K.length≤3∧LsOk Y K 3∧FmI w w3 W t l q gy gf #[.slice sp sn sc,.slice tp tn tc,I O ldue,I O llast,I O lmille,.slice gp gn gc,I O cp,I O ev,I O un,I O wd] fa2 day v R K) (fun k _=>(intOf k).toNat)
   case atStart=>exact⟨N3,_,_, [], [],rfl,by simpa using hN3,LsOk.nil _ _,I1.out⟩
   case round =>
    clear I1;obtain⟨wi,rfl⟩:∃wi:World,wi=wr:=⟨_,rfl⟩;obtain⟨m0,q0,v,K,R2,rfl,hmk,hLK,hI⟩:=hrel;have HLK:=mh hLK;have HI:=mh hI;have hmi0:(0:Int)≤(m0:Int):=inn _;obtain⟨lp,lc,rfl,hlc,hlz,hLs⟩:=hI.rw.lines rfl;clear hLK
    rcases Nat.eq_zero_or_pos m0 with hz0|hz0
    ·subst hz0
     rw[show((0:Nat):Int)=0 from rfl]
     have HV:=mh (show FV (NewQ w3.heap.size) wi ⟨fa2,day,lp,K.length,lc⟩ ⟨fa2,day,K⟩ from
      ⟨rfl,rfl,hLs.change mle fun b k _=>⟨rfl,by have:=hI.ord;unfold NewQ;omega⟩,rfl,hlc,hlz⟩)
     have HFM:=mh (HLK.out.farm HFA.out.2.2.1 HFA.out.2.2.2 HD.out.1 HD.out.2);have c0:=hI.fb.cell 0;have c1:=hI.fb.cell 1;have c2:=hI.fb.cell 2;have HOW:=mh (O3.out.ro.but FV.chgs HI.out.bo (by have:=HI.out.ord;omega));clear hI hLs hlc hlz
     go_wp2_with (first|(at_builtin;(refine OwnR.append el_farm rfl (.tmp 42) (.tmp 44) rfl (gy+1) _ R ⟨fa2,day,lp,K.length,lc⟩ #[I O fa2,I O day,.slice lp K.length lc] rfl HOW.out.own rfl (by simp[Act.eval]) (show gy<wi.heap.size from HI.out.yb.lt) (by have:=HOW.out.hl;omega) (by decide) ?_);intro v8 w8 hO8 hap8;have HRO:=mh (O3.out.ro.push FV.chgs (show gy<w3.heap.size from O3.out.yb.lt) HI.out.bo (by have:=HI.out.ord;omega) (Nat.le_succ _) HV.out hO8 hap8);have HOO:=mh (show FmO w w8 t l q0 gy #[.slice sp sn sc,.slice tp tn tc,I O ldue,I O llast,I O lmille,.slice gp gn gc,I O cp,I O ev,I O un,I O wd] v8 _ _ from⟨HI.out.tp.belowB (hap8.below.mono (by have:=O3.out.ord;omega)),(hap8.below.block gy (Nat.lt_succ_self gy)).trans HI.out.yb,HRO.out,O3.out.ord⟩);clear hO8 hap8)|fail)
     go_roundw
     case rel=>exact⟨M,fa2,F ++ [⟨fa2,day,K⟩],_,q0,by go_num,rfl,by rw[lap,List.length_singleton];omega,HF.out.snoc HFM.out HFA.out.1 HFA.out.2.1,HOO.out⟩
     case measure=>simp[intOf]
    ·obtain⟨m,rfl⟩:∃m,m0=m+1:=⟨m0 - 1,by omega⟩
     have hmp:(0:Int)<((m+1:Nat):Int):=by omega
     have HKL:=mh (show K.length<3 by omega);have ES:=mh (fun (W:World) (hb:Blk W gf #[I O fa2,I O day,.slice lp K.length lc] 71) (hy:Blk W gy #[.slice sp sn sc,.slice tp tn tc,I O ldue,I O llast,I O lmille,.slice gp gn gc,I O cp,I O ev,I O un,I O wd] 58)=>show W.cell? ⟨gf,2,none⟩=some (.slice lp K.length lc)∧W.cell? ⟨gy,0,none⟩=some (.slice sp sn sc)∧W.cell? ⟨gy,1,none⟩=some (.slice tp tn tc)∧W.cell? ⟨gy,2,none⟩=some (I O ldue)∧W.cell? ⟨gy,3,none⟩=some (I O llast)∧W.cell? ⟨gy,4,none⟩=some (I O lmille)∧W.cell? ⟨gy,5,none⟩=some (.slice gp gn gc)∧W.cell? ⟨gy,6,none⟩=some (I O cp)∧W.cell? ⟨gy,7,none⟩=some (I O ev)∧W.cell? ⟨gy,8,none⟩=some (I O un)∧W.cell? ⟨gy,9,none⟩=some (I O wd) from⟨hb.cell 2,hy.cell 0,hy.cell 1,hy.cell 2,hy.cell 3,hy.cell 4,hy.cell 5,hy.cell 6,hy.cell 7,hy.cell 8,hy.cell 9⟩);have KD:=mh (ES.out wi.drew (hI.fb.below (brf _ _).drew) (hI.yb.below (brf _ _).drew));have KS:=mh (fun (W:World) (hb:But t wi.drew W)=>ES.out W ((HI.out.fb.below (brf _ _).drew).but hb (by have:=HI.out.ord;omega)) ((HI.out.yb.below (brf _ _).drew).but hb (by have:=HI.out.ord;omega)))
     have KB:=mh (fun (W W' : World) (h:W.cell? ⟨gf,2,none⟩=some (.slice lp K.length lc)∧W.cell? ⟨gy,0,none⟩=some (.slice sp sn sc)∧W.cell? ⟨gy,1,none⟩=some (.slice tp tn tc)∧W.cell? ⟨gy,2,none⟩=some (I O ldue)∧W.cell? ⟨gy,3,none⟩=some (I O llast)∧W.cell? ⟨gy,4,none⟩=some (I O lmille)∧W.cell? ⟨gy,5,none⟩=some (.slice gp gn gc)∧W.cell? ⟨gy,6,none⟩=some (I O cp)∧W.cell? ⟨gy,7,none⟩=some (I O ev)∧W.cell? ⟨gy,8,none⟩=some (I O un)∧W.cell? ⟨gy,9,none⟩=some (I O wd)) (hb:Below (gf+1) W W')=>show W'.cell? ⟨gf,2,none⟩=some (.slice lp K.length lc)∧W'.cell? ⟨gy,0,none⟩=some (.slice sp sn sc)∧W'.cell? ⟨gy,1,none⟩=some (.slice tp tn tc)∧W'.cell? ⟨gy,2,none⟩=some (I O ldue)∧W'.cell? ⟨gy,3,none⟩=some (I O llast)∧W'.cell? ⟨gy,4,none⟩=some (I O lmille)∧W'.cell? ⟨gy,5,none⟩=some (.slice gp gn gc)∧W'.cell? ⟨gy,6,none⟩=some (I O cp)∧W'.cell? ⟨gy,7,none⟩=some (I O ev)∧W'.cell? ⟨gy,8,none⟩=some (I O un)∧W'.cell? ⟨gy,9,none⟩=some (I O wd) from
      ⟨(hb.cell (p:=⟨gf,2,none⟩) (Nat.lt_succ_self gf)).trans h.1,(hb.cell (p:=⟨gy,0,none⟩) (show gy<gf+1 by have:=HI.out.ord;omega)).trans h.2.1,(hb.cell (p:=⟨gy,1,none⟩) (show gy<gf+1 by have:=HI.out.ord;omega)).trans h.2.2.1,(hb.cell (p:=⟨gy,2,none⟩) (show gy<gf+1 by have:=HI.out.ord;omega)).trans h.2.2.2.1,(hb.cell (p:=⟨gy,3,none⟩) (show gy<gf+1 by have:=HI.out.ord;omega)).trans h.2.2.2.2.1,(hb.cell (p:=⟨gy,4,none⟩) (show gy<gf+1 by have:=HI.out.ord;omega)).trans h.2.2.2.2.2.1,(hb.cell (p:=⟨gy,5,none⟩) (show gy<gf+1 by have:=HI.out.ord;omega)).trans h.2.2.2.2.2.2.1,(hb.cell (p:=⟨gy,6,none⟩) (show gy<gf+1 by have:=HI.out.ord;omega)).trans h.2.2.2.2.2.2.2.1,(hb.cell (p:=⟨gy,7,none⟩) (show gy<gf+1 by have:=HI.out.ord;omega)).trans h.2.2.2.2.2.2.2.2.1,(hb.cell (p:=⟨gy,8,none⟩) (show gy<gf+1 by have:=HI.out.ord;omega)).trans h.2.2.2.2.2.2.2.2.2.1,(hb.cell (p:=⟨gy,9,none⟩) (show gy<gf+1 by have:=HI.out.ord;omega)).trans h.2.2.2.2.2.2.2.2.2.2⟩)
     clear hI hLs hlc hlz ES
     go_wp2_with fail
     refine wp_region_K (fun w' => w'.cell? ⟨gf,2,none⟩=some (.slice lp K.length lc)∧w'.cell? ⟨gy,0,none⟩=some (.slice sp sn sc)∧w'.cell? ⟨gy,1,none⟩=some (.slice tp tn tc)∧w'.cell? ⟨gy,2,none⟩=some (I O ldue)∧w'.cell? ⟨gy,3,none⟩=some (I O llast)∧w'.cell? ⟨gy,4,none⟩=some (I O lmille)∧w'.cell? ⟨gy,5,none⟩=some (.slice gp gn gc)∧w'.cell? ⟨gy,6,none⟩=some (I O cp)∧w'.cell? ⟨gy,7,none⟩=some (I O ev)∧w'.cell? ⟨gy,8,none⟩=some (I O un)∧w'.cell? ⟨gy,9,none⟩=some (I O wd)) 8 (by kernel_rfl) KD.out (fun hHeld=>?_)
     refine tkG 0 34 ?_
     refine tkG 1 35 ?_
     refine tkG 2 36 ?_
     refine tkG 3 37 ?_
     refine wpAnyK_one (i:=4) (o:=⟨some 38,_,_,_,_,_⟩) (by kernel_rfl) (by kernel_rfl) rfl (fun K0 hK=>?_)
     go_simp
     (with_reducible refine cmo (LN.out _ _ HI.out.tp.drew) ?_);rintro e w5 ⟨⟨dl,ls,dp,dn,dc,se,ki,ar,bo⟩,x,q5,rfl,hv,hok,hd,hp5⟩;simp only[lCells]
     go_wp2_with fail
     have K5:=mh (KS.out w5 hp5.but);have HP5:=mh (TpB.trans HI.out.tp.drew hp5);have HX5:=mh (And.intro hv (And.intro hok hd));have HB5:=mh hp5.but;clear hv hok hd hp5;refine hK.out _ _ K5.out ?_;clear hK K0
     (try dsimp only[Act.put])
     try simp only[mnA,mnB,mnC]
     have HA:=mh ((brf w5.heap.size w5).alloc mle (.cells #[I O dl,I O ls,.slice dp dn dc,I O se,I O ki,I O ar,I O bo] 67));have HZ5:=mh (show wi.heap.size≤w5.heap.size from HB5.out.size);have R5:=mh (((HI.out.rw.below LV.chgs (brf wi.heap.size wi).drew).but LV.chgs HB5.out (by have:=HI.out.ord;omega)).below LV.chgs HA.out);have K6:=mh (KB.out _ (w5.alloc (.cells #[I O dl,I O ls,.slice dp dn dc,I O se,I O ki,I O ar,I O bo] 67)) K5.out (HA.out.mono (by have:=HI.out.fb.lt;have:=HZ5.out;omega)));have SR5:=mh (show Recs SL (w5.alloc (.cells #[I O dl,I O ls,.slice dp dn dc,I O se,I O ki,I O ar,I O bo] 67)) (some ⟨w5.heap.size,0,none⟩) [(⟨dl,ls,dp,dn,dc,se,ki,ar,bo⟩:RL)] from Recs.lit (S:=SL) w5 _ [(⟨dl,ls,dp,dn,dc,se,ki,ar,bo⟩:RL)] (by show 1≤_;unfold maxLen;omega));refine wpAnyK_one (i:=5) (o:=⟨some 39,_,_,_,_,_⟩) (by kernel_rfl) (by kernel_rfl) rfl (fun K0 hK=>?_);go_simp;refine hK.out _ _ K6.out ?_;clear hK K0
     (try dsimp only[Act.put])
     try simp only[mnA,mnB,mnC]
     refine wpAnyK_one (i:=6) (o:=⟨some 40,_,_,_,_,_⟩) (by kernel_rfl) (by kernel_rfl) rfl (fun K0 hK=>?_)
     refine OwnR.stepAp el_line (by rfl) (.tmp 35) (.tmp 39) (by rfl) (gf+1) (.slice lp K.length lc) R2 [(⟨dl,ls,dp,dn,dc,se,ki,ar,bo⟩:RL)] (some ⟨w5.heap.size,0,none⟩) 1 1 rfl R5.out.own SR5.out (fun h=>by cases h) (by rfl) (by rfl) (by rw[World.size_alloc];have:=HI.out.fb.lt;have:=HZ5.out;omega) (by have:=R5.out.hl;have:=HKL.out;omega) (by decide) ?_
     intro v7 w7 hO7 hap7;obtain⟨p7,c7,rfl, -⟩:=hO7.cut (n:=K.length+1) (by rw[lap,R5.out.hl];rfl);have HF7:=mh (HI.out.push HB5.out HP5.out.tape HX5.out.1 HA.out hO7 hap7);have K7:=mh (KB.out _ w7 K6.out hap7.below);have B7:=mh (HI.out.mid HB5.out HA.out hap7);have x2:=B7.out.cell 2;have x2f:=B7.out.fr 2;clear hO7 hap7;refine hK.out _ _ K7.out ?_;clear hK K0
     (try dsimp only[Act.put])
     try simp only[mnA,mnB,mnC]
     refine tkG 7 41 ?_
     refine wpAnyK_last (o:=⟨none,_,_,_,_,_⟩) (by kernel_rfl) rfl (fun K0 hK=>?_)
     go_simp
     refine hK.out _ _ ?_
     clear hK K0
     (try dsimp only[Act.put])
     try simp only[mnA,mnB,mnC]
     refine wpAnyH_done (by kernel_rfl) ?_ _
     go_wp2_with fail
     go_roundw
     case rel=>exact⟨m,q5,_,K ++ [x],_,by go_num,by rw[lap,List.length_singleton];omega,HLK.out.snoc (by have:=HKL.out;omega) HX5.out.2.1 HX5.out.2.2,HF7.out⟩
     case measure=>simp[intOf]
end Go.Proofs.YtljibgchickcpaaGreatDoor
