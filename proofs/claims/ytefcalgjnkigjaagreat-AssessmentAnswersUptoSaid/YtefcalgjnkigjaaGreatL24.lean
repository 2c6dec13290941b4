/- Packed. -/
import Derived.Test.YtefcalgjnkigjaaGreatL23
set_option maxRecDepth 100000
set_option maxHeartbeats 8000000
open Go.Value renaming int → I
open Go.IntKind renaming i64 → O
namespace Go.Proofs.YtefcalgjnkigjaaGreat
open Go.RowKit Sc As
section
variable {w W W' : World} {t q q' g g3 d:Nat} {l:List Int} {r:RY} {Y:YLaw}
theorem uV.tg (h:uV w W t l q g g3 d r Y):t<g:=by have:=h.ord;have:=h.tp.lt;omega
theorem uV.next (h:uV w W t l q g g3 d r Y)(ht:qV W' t l q')(hb:But t W W'):uV w W' t l q' g g3 d r Y:=by
 have h1:=h.tg;have h2:=h.ord;have h3:=h.tp.lt;exact⟨h.tp.next ht hb,h.res.but hb (by omega),h.vb.but hb (by omega),h.yv.change hb.size fun b k hl=>⟨hb.block b hl (by have:=k.1;omega),k⟩,h.ok,h.len,h.due,h.sm,h2⟩
theorem uV.set (h:uV w W t l q g g3 d r Y)(i:Nat)(u:Value){r' : RY}{Y' : YLaw}(hr:(yCells r).toArray.setIfInBounds i u=(yCells r').toArray)(hy:∀W', YV (fun b=>w.heap.size≤b∧b≠g∧b≠g3) W' d r Y→YV (fun b=>w.heap.size≤b∧b≠g∧b≠g3) W' d r' Y')(ho:YOk Y')(hs:Y'.sch=Y.sch)(hl:Y'.late=Y.late) :
  uV w (W.setCell ⟨g3,i,none⟩ u) t l q g g3 d r' Y' :=by
 have h2:=h.ord;exact⟨h.tp.set (by omega) u,h.res.far (by omega) u,hr▸h.vb.set i u,hy _ (h.yv.change (by simp[World.setCell]) fun b k _=>⟨qB _ k.2.2 _ _,k⟩),ho,by rw[hs];exact h.len,by rw[hl];exact h.due,by rw[hs];exact h.sm,h2⟩
theorem uV.capd (h:uV w W t l q g g3 d r Y)(c:Int)(h0:0≤c)(h1:c≤68719476736):uV w (W.setCell ⟨g3,6,none⟩ (I O c)) t l q g g3 d { r with cap:=c } { Y with cap:=c } :=
 h.set 6 _ rfl (fun _ k=>⟨k.sch,k.sn,k.sc,k.steps,k.tn,k.tq,k.due,k.last,k.mille,k.deg,k.gn,k.gq,rfl,k.env,k.unit,k.width,k.small,k.terms⟩) ⟨h.ok.ne,h.ok.sch,h.ok.steps,h.ok.late,h.ok.deg,⟨h0,h1⟩,h.ok.env,h.ok.unit,h.ok.width⟩ rfl rfl
theorem uV.env (h:uV w W t l q g g3 d r Y)(c:Int)(h0:0≤c)(h1:c≤68719476736):uV w (W.setCell ⟨g3,7,none⟩ (I O c)) t l q g g3 d { r with env:=c } { Y with env:=c } :=
 h.set 7 _ rfl (fun _ k=>⟨k.sch,k.sn,k.sc,k.steps,k.tn,k.tq,k.due,k.last,k.mille,k.deg,k.gn,k.gq,k.cap,rfl,k.unit,k.width,k.small,k.terms⟩) ⟨h.ok.ne,h.ok.sch,h.ok.steps,h.ok.late,h.ok.deg,h.ok.cap,⟨h0,h1⟩,h.ok.unit,h.ok.width⟩ rfl rfl
theorem uV.fin (h:uV w W t l q g g3 d r Y)(u0 u1 u2 u3 u4 u5 u6 u7 u8 u9:Value):YV (jP w.heap.size) (vW W g u0 u1 u2 u3 u4 u5 u6 u7 u8 u9) d r Y∧TpB w (vW W g u0 u1 u2 u3 u4 u5 u6 u7 u8 u9) t l q :=
 ⟨h.yv.change (by rw[qKA];exact Nat.le_refl _) fun b k _=>⟨bX _ k.2.1 _ _ _ _ _ _ _ _ _ _,k.1⟩,h.tp.belowB (tQ (brf _ _) h.ord.1 _ _ _ _ _ _ _ _ _ _)⟩
end
def LawG (t:Nat) (l:List Int) (w:World) (e:Ending) (w' : World):Prop :=
 ∃(d:Nat) (r:RY) (Y:YLaw) (q:Nat),e = .returned (.agg (yCells r).toArray)∧YV (jP w.heap.size) w' d r Y∧YOk Y∧Y.sch.length≤3∧Y.late.due<40∧(∀s∈Y.sch,yZ s)∧TpB w w' t l q
theorem aZ (t:Nat)(l:List Int)(a:Nat)(w:World)(h:qV w t l a):Calls Tryz.prog 8 #[.pointer (some ⟨t,0,none⟩)] w (LawG t l w):=by
 obtain⟨g,eg⟩:∃g,w.heap.size=g:=⟨_,rfl⟩
 have J0:=mh (show LwJ w (w.alloc (.cells #[.slice none 0 0,.slice none 0 0,I O 0,I O 0,I O 0,.slice none 0 0,I O 0,I O 0,I O 0,I O 0] 29)).drew t l g ⟨a,0,none,0, [],none,0, [],0,0,0,none,0, [],0,0,0,0,0,0,0⟩ 0 false false false from by
  have hb:=((brf w.heap.size w).alloc mle (.cells #[.slice none 0 0,.slice none 0 0,I O 0,I O 0,I O 0,.slice none 0 0,I O 0,I O 0,I O 0,I O 0] 29)).drew
  exact⟨(TpB.init h).below hb,(eg▸Blk.new w _ _).below (brf _ _).drew,by omega,(fun e=>by omega),(fun e=>by omega),(fun e=>by omega),(fun e=>by omega),(fun e=>by omega),(fun e=>by omega),(fun e=>by omega),(fun e=>by omega),(fun e=>by cases e),(fun e=>by cases e),(fun e=>by cases e)⟩)
 clear h
 go_enter Tryz.func8,Tryz.ntmps8
 go_upto_region 1 with fail
 clear eg;generalize w.alloc (.cells #[.slice none 0 0,.slice none 0 0,I O 0,I O 0,I O 0,.slice none 0 0,I O 0,I O 0,I O 0,I O 0] 29)=w0 at *
 go_cut [3] (fun s3 wx=>∃(g3 q d:Nat) (r:RY) (Y:YLaw),s3 = .pointer (some ⟨g3,0,none⟩)∧uV w wx t l q g g3 d r Y)
 case first =>
  refine wp_region_held_drew (S:=fun _=>True) (by kernel_rfl) trivial (fun _=>?_)
  show wpAnyH Tryz.prog .any jQ _ (fun _=>True) 22 #[false,false,false,false,false,false,false,false,false,false,false,false,false,false,false,false,false,false,false,false,false,false] _ _
  refine tkC 0 4 (fun _ _ _ h=>h) ?_
  simp only[Act.put,mnA,mnB,mnC];refine tkC 2 6 (fun _ _ _ h=>h) ?_;simp only[Act.put,mnA,mnB,mnC];refine tkC 4 8 (fun _ _ _ h=>h) ?_;simp only[Act.put,mnA,mnB,mnC];refine tkC 6 10 (fun _ _ _ h=>h) ?_;simp only[Act.put,mnA,mnB,mnC];refine tkC 8 12 (fun _ _ _ h=>h) ?_;simp only[Act.put,mnA,mnB,mnC];refine tkC 10 14 (fun _ _ _ h=>h) ?_;simp only[Act.put,mnA,mnB,mnC];refine tkC 13 17 (fun _ _ _ h=>h) ?_;simp only[Act.put,mnA,mnB,mnC];refine tkC 17 21 (fun _ _ _ h=>h) ?_;simp only[Act.put,mnA,mnB,mnC];refine kAA J0 ⟨fun S W J=>?_,fun _ _ s _ _ h=>by cases s<;>exact h⟩;have J9:=mh J.lawV
  go_wp2_with fail
  go_meet
  exact⟨_,_,_,_,_,rfl,J9.out⟩
 case rest =>
  clear J0;obtain⟨g3,q,d,⟨sp,sn,sc,tp,tn,tc,ldue,llast,lmille,gp,gn,gc,cp,ev,un,wd⟩,Y,rfl,hL⟩:=hcut;have L1:=mh hL;obtain⟨c1,ec1⟩:∃c,(qN l q 2==2 - 1)=c:=⟨_,rfl⟩;have T1:=mh (xE t l q 2 wc hL.tp.tape (by omega) (by omega));rw[ec1]at T1;clear ec1 hL;generalize qM l q=q' at *
  go_wp2_with fail
  (with_reducible refine cmo T1.out ?_);rintro e w2 ⟨rfl,ht2,hb2⟩;have L2:=mh (L1.next ht2 hb2);clear ht2 hb2
  cases c1
  ·obtain⟨c2,ec2⟩:∃c,(qN l q' 2==2 - 1)=c:=⟨_,rfl⟩
   have T2:=mh (xE t l q' 2 w2 L2.tp.tape (by omega) (by omega));rw[ec2]at T2;clear ec2;generalize qM l q' = q2 at *
   go_wp2_with fail
   (with_reducible refine cmo T2.out ?_);rintro e w4 ⟨rfl,ht4,hb4⟩;have L4:=mh (L2.next ht4 hb4);clear ht4 hb4
   cases c2
   ·have VB:=L4.vb
    simp only[yCells]at VB;have k0:=VB.cell 0;have k1:=VB.cell 1;have k2:=VB.cell 2;have k3:=VB.cell 3;have k4:=VB.cell 4;have k5:=VB.cell 5;have k6:=VB.cell 6;have k7:=VB.cell 7;have k8:=VB.cell 8;have k9:=VB.cell 9;clear VB;have z0:=L4.res.cell 0;have z1:=L4.res.cell 1;have z2:=L4.res.cell 2;have z3:=L4.res.cell 3;have z4:=L4.res.cell 4;have z5:=L4.res.cell 5;have z6:=L4.res.cell 6;have z7:=L4.res.cell 7;have z8:=L4.res.cell 8;have z9:=L4.res.cell 9;have f0:=L4.res.fr 0;have f1:=L4.res.fr 1;have f2:=L4.res.fr 2;have f3:=L4.res.fr 3;have f4:=L4.res.fr 4;have f5:=L4.res.fr 5;have f6:=L4.res.fr 6;have f7:=L4.res.fr 7;have f8:=L4.res.fr 8;have f9:=L4.res.fr 9;have BF:=mh (vM L4.res ⟨_,_,_,_,_,_,_,_,_,_,rfl⟩ (.slice sp sn sc) (.slice tp tn tc) (I O ldue) (I O llast) (I O lmille) (.slice gp gn gc) (I O cp) (I O ev) (I O un) (I O wd));have PF:=mh (L4.fin (.slice sp sn sc) (.slice tp tn tc) (I O ldue) (I O llast) (I O lmille) (.slice gp gn gc) (I O cp) (I O ev) (I O un) (I O wd));have OK:=mh (And.intro L4.ok (And.intro L4.len (And.intro L4.due L4.sm)))
    go_wp2
    unfold vW at BF PF;generalize ((((((((((w4.setCell ⟨g,0,none⟩ (.slice sp sn sc)).setCell ⟨g,1,none⟩ (.slice tp tn tc)).setCell ⟨g,2,none⟩ (I O ldue)).setCell ⟨g,3,none⟩ (I O llast)).setCell ⟨g,4,none⟩ (I O lmille)).setCell ⟨g,5,none⟩ (.slice gp gn gc)).setCell ⟨g,6,none⟩ (I O cp)).setCell ⟨g,7,none⟩ (I O ev)).setCell ⟨g,8,none⟩ (I O un)).setCell ⟨g,9,none⟩ (I O wd))=wf at *;have d0:=BF.cell 0;have d1:=BF.cell 1;have d2:=BF.cell 2;have d3:=BF.cell 3;have d4:=BF.cell 4;have d5:=BF.cell 5;have d6:=BF.cell 6;have d7:=BF.cell 7;have d8:=BF.cell 8;have d9:=BF.cell 9;exact bodyPost_ret (v := .agg #[.slice sp sn sc,.slice tp tn tc,I O ldue,I O llast,I O lmille,.slice gp gn gc,I O cp,I O ev,I O un,I O wd]) (by simp[results,Tryz.results8,go_sem,d0,d1,d2,d3,d4,d5,d6,d7,d8,d9]) rfl ⟨_,⟨sp,sn,sc,tp,tn,tc,ldue,llast,lmille,gp,gn,gc,cp,ev,un,wd⟩,_,_,rfl,PF.1,OK.1,OK.2.1,OK.2.2.1,OK.2.2.2,PF.2⟩
   ·have VB7:=L4.vb
    simp only[yCells]at VB7;have k7:=VB7.cell 7;clear VB7;have m7:=L4.vb.fr 7;have L5:=mh (L4.env 10000000 (by omega) (by omega))
    go_upto_region 6 with fail
    generalize w4.setCell ⟨g3,7,none⟩ (I O 10000000)=w5 at *;clear k7 m7;have VB:=L5.vb;simp only[yCells]at VB;have k0:=VB.cell 0;have k1:=VB.cell 1;have k2:=VB.cell 2;have k3:=VB.cell 3;have k4:=VB.cell 4;have k5:=VB.cell 5;have k6:=VB.cell 6;have k7:=VB.cell 7;have k8:=VB.cell 8;have k9:=VB.cell 9;clear VB;have z0:=L5.res.cell 0;have z1:=L5.res.cell 1;have z2:=L5.res.cell 2;have z3:=L5.res.cell 3;have z4:=L5.res.cell 4;have z5:=L5.res.cell 5;have z6:=L5.res.cell 6;have z7:=L5.res.cell 7;have z8:=L5.res.cell 8;have z9:=L5.res.cell 9;have f0:=L5.res.fr 0;have f1:=L5.res.fr 1;have f2:=L5.res.fr 2;have f3:=L5.res.fr 3;have f4:=L5.res.fr 4;have f5:=L5.res.fr 5;have f6:=L5.res.fr 6;have f7:=L5.res.fr 7;have f8:=L5.res.fr 8;have f9:=L5.res.fr 9;have BF:=mh (vM L5.res ⟨_,_,_,_,_,_,_,_,_,_,rfl⟩ (.slice sp sn sc) (.slice tp tn tc) (I O ldue) (I O llast) (I O lmille) (.slice gp gn gc) (I O cp) (I O 10000000) (I O un) (I O wd));have PF:=mh (L5.fin (.slice sp sn sc) (.slice tp tn tc) (I O ldue) (I O llast) (I O lmille) (.slice gp gn gc) (I O cp) (I O 10000000) (I O un) (I O wd));have OK:=mh (And.intro L5.ok (And.intro L5.len (And.intro L5.due L5.sm)))
    go_wp2
    unfold vW at BF PF;generalize ((((((((((w5.setCell ⟨g,0,none⟩ (.slice sp sn sc)).setCell ⟨g,1,none⟩ (.slice tp tn tc)).setCell ⟨g,2,none⟩ (I O ldue)).setCell ⟨g,3,none⟩ (I O llast)).setCell ⟨g,4,none⟩ (I O lmille)).setCell ⟨g,5,none⟩ (.slice gp gn gc)).setCell ⟨g,6,none⟩ (I O cp)).setCell ⟨g,7,none⟩ (I O 10000000)).setCell ⟨g,8,none⟩ (I O un)).setCell ⟨g,9,none⟩ (I O wd))=wf at *;have d0:=BF.cell 0;have d1:=BF.cell 1;have d2:=BF.cell 2;have d3:=BF.cell 3;have d4:=BF.cell 4;have d5:=BF.cell 5;have d6:=BF.cell 6;have d7:=BF.cell 7;have d8:=BF.cell 8;have d9:=BF.cell 9;exact bodyPost_ret (v := .agg #[.slice sp sn sc,.slice tp tn tc,I O ldue,I O llast,I O lmille,.slice gp gn gc,I O cp,I O 10000000,I O un,I O wd]) (by simp[results,Tryz.results8,go_sem,d0,d1,d2,d3,d4,d5,d6,d7,d8,d9]) rfl ⟨_,⟨sp,sn,sc,tp,tn,tc,ldue,llast,lmille,gp,gn,gc,cp,10000000,un,wd⟩,_,_,rfl,PF.1,OK.1,OK.2.1,OK.2.2.1,OK.2.2.2,PF.2⟩
  ·have VB6:=L2.vb
   simp only[yCells]at VB6;have k6:=VB6.cell 6;clear VB6;have m6:=L2.vb.fr 6;have L3:=mh (L2.capd 1000000 (by omega) (by omega))
   go_upto_region 4 with fail
   generalize w2.setCell ⟨g3,6,none⟩ (I O 1000000)=w3 at *;clear k6 m6;obtain⟨c2,ec2⟩:∃c,(qN l q' 2==2 - 1)=c:=⟨_,rfl⟩;have T2:=mh (xE t l q' 2 w3 L3.tp.tape (by omega) (by omega));rw[ec2]at T2;clear ec2;generalize qM l q' = q2 at *
   go_wp2_with fail
   (with_reducible refine cmo T2.out ?_);rintro e w4 ⟨rfl,ht4,hb4⟩;have L4:=mh (L3.next ht4 hb4);clear ht4 hb4
   cases c2
   ·have VB:=L4.vb
    simp only[yCells]at VB;have k0:=VB.cell 0;have k1:=VB.cell 1;have k2:=VB.cell 2;have k3:=VB.cell 3;have k4:=VB.cell 4;have k5:=VB.cell 5;have k6:=VB.cell 6;have k7:=VB.cell 7;have k8:=VB.cell 8;have k9:=VB.cell 9;clear VB;have z0:=L4.res.cell 0;have z1:=L4.res.cell 1;have z2:=L4.res.cell 2;have z3:=L4.res.cell 3;have z4:=L4.res.cell 4;have z5:=L4.res.cell 5;have z6:=L4.res.cell 6;have z7:=L4.res.cell 7;have z8:=L4.res.cell 8;have z9:=L4.res.cell 9;have f0:=L4.res.fr 0;have f1:=L4.res.fr 1;have f2:=L4.res.fr 2;have f3:=L4.res.fr 3;have f4:=L4.res.fr 4;have f5:=L4.res.fr 5;have f6:=L4.res.fr 6;have f7:=L4.res.fr 7;have f8:=L4.res.fr 8;have f9:=L4.res.fr 9;have BF:=mh (vM L4.res ⟨_,_,_,_,_,_,_,_,_,_,rfl⟩ (.slice sp sn sc) (.slice tp tn tc) (I O ldue) (I O llast) (I O lmille) (.slice gp gn gc) (I O 1000000) (I O ev) (I O un) (I O wd));have PF:=mh (L4.fin (.slice sp sn sc) (.slice tp tn tc) (I O ldue) (I O llast) (I O lmille) (.slice gp gn gc) (I O 1000000) (I O ev) (I O un) (I O wd));have OK:=mh (And.intro L4.ok (And.intro L4.len (And.intro L4.due L4.sm)))
    go_wp2
    unfold vW at BF PF;generalize ((((((((((w4.setCell ⟨g,0,none⟩ (.slice sp sn sc)).setCell ⟨g,1,none⟩ (.slice tp tn tc)).setCell ⟨g,2,none⟩ (I O ldue)).setCell ⟨g,3,none⟩ (I O llast)).setCell ⟨g,4,none⟩ (I O lmille)).setCell ⟨g,5,none⟩ (.slice gp gn gc)).setCell ⟨g,6,none⟩ (I O 1000000)).setCell ⟨g,7,none⟩ (I O ev)).setCell ⟨g,8,none⟩ (I O un)).setCell ⟨g,9,none⟩ (I O wd))=wf at *;have d0:=BF.cell 0;have d1:=BF.cell 1;have d2:=BF.cell 2;have d3:=BF.cell 3;have d4:=BF.cell 4;have d5:=BF.cell 5;have d6:=BF.cell 6;have d7:=BF.cell 7;have d8:=BF.cell 8;have d9:=BF.cell 9;exact bodyPost_ret (v := .agg #[.slice sp sn sc,.slice tp tn tc,I O ldue,I O llast,I O lmille,.slice gp gn gc,I O 1000000,I O ev,I O un,I O wd]) (by simp[results,Tryz.results8,go_sem,d0,d1,d2,d3,d4,d5,d6,d7,d8,d9]) rfl ⟨_,⟨sp,sn,sc,tp,tn,tc,ldue,llast,lmille,gp,gn,gc,1000000,ev,un,wd⟩,_,_,rfl,PF.1,OK.1,OK.2.1,OK.2.2.1,OK.2.2.2,PF.2⟩
   ·have VB7:=L4.vb
    simp only[yCells]at VB7;have k7:=VB7.cell 7;clear VB7;have m7:=L4.vb.fr 7;have L5:=mh (L4.env 10000000 (by omega) (by omega))
    go_upto_region 6 with fail
    generalize w4.setCell ⟨g3,7,none⟩ (I O 10000000)=w5 at *;clear k7 m7;have VB:=L5.vb;simp only[yCells]at VB;have k0:=VB.cell 0;have k1:=VB.cell 1;have k2:=VB.cell 2;have k3:=VB.cell 3;have k4:=VB.cell 4;have k5:=VB.cell 5;have k6:=VB.cell 6;have k7:=VB.cell 7;have k8:=VB.cell 8;have k9:=VB.cell 9;clear VB;have z0:=L5.res.cell 0;have z1:=L5.res.cell 1;have z2:=L5.res.cell 2;have z3:=L5.res.cell 3;have z4:=L5.res.cell 4;have z5:=L5.res.cell 5;have z6:=L5.res.cell 6;have z7:=L5.res.cell 7;have z8:=L5.res.cell 8;have z9:=L5.res.cell 9;have f0:=L5.res.fr 0;have f1:=L5.res.fr 1;have f2:=L5.res.fr 2;have f3:=L5.res.fr 3;have f4:=L5.res.fr 4;have f5:=L5.res.fr 5;have f6:=L5.res.fr 6;have f7:=L5.res.fr 7;have f8:=L5.res.fr 8;have f9:=L5.res.fr 9;have BF:=mh (vM L5.res ⟨_,_,_,_,_,_,_,_,_,_,rfl⟩ (.slice sp sn sc) (.slice tp tn tc) (I O ldue) (I O llast) (I O lmille) (.slice gp gn gc) (I O 1000000) (I O 10000000) (I O un) (I O wd));have PF:=mh (L5.fin (.slice sp sn sc) (.slice tp tn tc) (I O ldue) (I O llast) (I O lmille) (.slice gp gn gc) (I O 1000000) (I O 10000000) (I O un) (I O wd));have OK:=mh (And.intro L5.ok (And.intro L5.len (And.intro L5.due L5.sm)))
    go_wp2
    unfold vW at BF PF;generalize ((((((((((w5.setCell ⟨g,0,none⟩ (.slice sp sn sc)).setCell ⟨g,1,none⟩ (.slice tp tn tc)).setCell ⟨g,2,none⟩ (I O ldue)).setCell ⟨g,3,none⟩ (I O llast)).setCell ⟨g,4,none⟩ (I O lmille)).setCell ⟨g,5,none⟩ (.slice gp gn gc)).setCell ⟨g,6,none⟩ (I O 1000000)).setCell ⟨g,7,none⟩ (I O 10000000)).setCell ⟨g,8,none⟩ (I O un)).setCell ⟨g,9,none⟩ (I O wd))=wf at *;have d0:=BF.cell 0;have d1:=BF.cell 1;have d2:=BF.cell 2;have d3:=BF.cell 3;have d4:=BF.cell 4;have d5:=BF.cell 5;have d6:=BF.cell 6;have d7:=BF.cell 7;have d8:=BF.cell 8;have d9:=BF.cell 9;exact bodyPost_ret (v := .agg #[.slice sp sn sc,.slice tp tn tc,I O ldue,I O llast,I O lmille,.slice gp gn gc,I O 1000000,I O 10000000,I O un,I O wd]) (by simp[results,Tryz.results8,go_sem,d0,d1,d2,d3,d4,d5,d6,d7,d8,d9]) rfl ⟨_,⟨sp,sn,sc,tp,tn,tc,ldue,llast,lmille,gp,gn,gc,1000000,10000000,un,wd⟩,_,_,rfl,PF.1,OK.1,OK.2.1,OK.2.2.1,OK.2.2.2,PF.2⟩
end Go.Proofs.YtefcalgjnkigjaaGreat
namespace Go.Proofs.YtefcalgjnkigjaaGreat
open Go
section
variable {P:Program} {ops:Array Oper} {Q:Exit→Act→World→Prop} {md:Region.Mode} {S:World→Prop} {k0:Nat}
theorem bG {i:Nat}{oi:Oper}{v:Value}(hi:ops[i]?=some oi)(hsel:∀(j:Nat) (o:Oper) cs b,ops[j]?=some o→o.op ≠ .select cs b)
  (hQ:∀c a w,Q (.panic c) (a.put oi.dst v) w→Q (.panic c) a w) (hk:i≠k0) :
  ∀(fuel:Nat) (listed:Array Bool) (a:Act) (w:World),
    (∀j oj,ops[j]?=some oj→j≠i→listed.getD j true=false→(∀e∈oj.after,Region.binds md e=true→e.on≠i)→oi.apart ops oj=true) →
    i∈Region.ready md ops listed→YieldsIf P ops (fun _=>True) oi v a→S w →
    zR P md ops Q S k0 fuel (listed.setIfInBounds i true) (a.put oi.dst v) w→zR P md ops Q S k0 (fuel+1) listed a w:=by
 intro fuel
 induction fuel with
 | zero =>
   intro listed a w _ hr hy hS H;refine⟨fun h=>(by rw[h]at hr;cases hr),fun j hj=>?_⟩
   by_cases hji:j=i
   ·subst hji;exact⟨fun e=>absurd e hk,fun _=>hy.wpOp hi trivial ⟨hS,H⟩⟩
   ·have:=ready_mono hj hji
    rw[H.1]at this
    cases this
 | succ fuel ih =>
   intro listed a w hfree hr hy hS H;refine⟨fun h=>(by rw[h]at hr;cases hr),fun j hj=>?_⟩
   by_cases hji:j=i
   ·subst hji;exact⟨fun e=>absurd e hk,fun _=>hy.wpOp hi trivial ⟨hS,H⟩⟩
   have hiun:=pZ (mem_ready.1 hr).1;obtain⟨hjun,oj,hoj,hall⟩:=mem_ready.1 hj;have hnot:∀e∈oj.after,Region.binds md e=true→e.on≠i:=fun e he hb heq=>hiun (heq▸hall e he hb)
   have hfree' : ∀k ok,ops[k]?=some ok→k≠i→(listed.setIfInBounds j true).getD k true=false →
     (∀e∈ok.after,Region.binds md e=true→e.on≠i)→oi.apart ops ok=true:=fun k ok hk hki hun hno=>by
    refine hfree k ok hk hki ?_ hno
    by_cases hjk:j=k
    ·subst hjk;exact hjun
    ·rw[getD_set_ne true hjk]at hun;exact hun
   by_cases e:j=k0
   ·refine⟨fun _=>?_,fun h=>absurd e h⟩
    have h1:=(H.2 j (ready_mono hj hji)).1 e;have h2:=wpOp_putIf hoj (hfree j oj hoj hji hjun hnot) (fun cs b=>hsel i oi cs b hi) (fun cs b=>hsel j oj cs b hoj) hQ hy h1;refine wpOp_mono (fun a' w' h3=>?_) h2;refine wpAny_of_held _ _ _ _ (wpAnyH_first hi hsel hQ fuel (listed.setIfInBounds j true) a' w' hfree' (ready_mono hr (Ne.symm hji)) h3.1 trivial ?_);rw[Array.setIfInBounds_comm _ _ hji];exact fQ _ _ _ _ h3.2
   ·refine⟨fun h=>absurd h e,fun _=>?_⟩
    have h1:=(H.2 j (ready_mono hj hji)).2 e;have h2:=wpOp_putIf hoj (hfree j oj hoj hji hjun hnot) (fun cs b=>hsel i oi cs b hi) (fun cs b=>hsel j oj cs b hoj) hQ hy h1;refine wpOp_mono (fun a' w' h3=>⟨h3.2.1,ih (listed.setIfInBounds j true) a' w' hfree' (ready_mono hr (Ne.symm hji)) h3.1 h3.2.1 ?_⟩) h2;rw[Array.setIfInBounds_comm _ _ hji];exact h3.2.2
theorem nJ {i:Nat}{oi:Oper}{v:Value}{fuel:Nat}{listed:Array Bool}{a:Act}{w:World}(hi:ops[i]?=some oi)
  (hs:Region.noSelect ops=true) (hf:Region.free md ops listed i=true) (hr:(Region.ready md ops listed).contains i=true) (hk:(i != k0)=true)
  (hQ:∀c a w,Q (.panic c) (a.put oi.dst v) w→Q (.panic c) a w) (hy:YieldsIf P ops (fun _=>True) oi v a) (hS:S w)
  (h:zR P md ops Q S k0 fuel (listed.setIfInBounds i true) (a.put oi.dst v) w):zR P md ops Q S k0 (fuel+1) listed a w :=
 bG hi (Region.noSelect_spec hs) hQ (by simpa using hk) fuel listed a w (Region.free_spec hi hf) (by simpa using hr) hy hS h
end
end Go.Proofs.YtefcalgjnkigjaaGreat
namespace Go.Proofs.YtefcalgjnkigjaaGreat
open Go.RowKit
theorem tkA1 {α:Type _}{a:List α}{i:Nat}{b:α}:a.toArray.setIfInBounds i b=(a.set i b).toArray:=List.setIfInBounds_toArray ..
section
variable {P:Program} {md:Region.Mode} {ops:Array Oper} {Q:Exit→Act→World→Prop} {S:World→Prop} {k0 fuel:Nat} {listed:Array Bool} {a:Act} {w:World} {v:Value} {op:Op} {ty:TypeId} {ps:String} {af:Array Edge} {gd:Option (Nat × Bool)}
theorem tkH (i s:Nat){b:Act}{l:Array Bool}(hS:S w)(h:wpAnyH P md ops Q S fuel l b w)
  (hi:ops[i]?=some ⟨some s,op,ty,ps,af,gd⟩:=by rfl) (hs:Region.noSelect ops=true:=by kernel_rfl) (hf:Region.free md ops listed i=true:=by kernel_rfl) (hr:(Region.ready md ops listed).contains i=true:=by kernel_rfl)
  (hQ:∀c a w,Q (.panic c) (a.put (some s) v) w→Q (.panic c) a w:=by exact fun _ _ _ h=>h)
  (hw:Region.wanted ⟨some s,op,ty,ps,af,gd⟩ (yielded ops a.tmps)=true:=by kernel_rfl)
  (hy:∀w,S w→(execOp a.eval ⟨some s,op,ty,ps,af,gd⟩).run P w = .ok (.value v) w:=by intro W0 hSw;(try dsimp only at hSw);go_simp;try with_reducible rfl)
  (hb:a.put (some s) v=b:=by (try simp only[Act.put,tkA1,tkA2,tkA3]);try exact rfl)
  (hl:listed.setIfInBounds i true=l:=by (try simp only[tkA1,tkA2,tkA3]);try exact rfl):wpAnyH P md ops Q S (fuel+1) listed a w:=by
 subst hb;subst hl;exact wpAnyH_take hi hs hf hr hQ (Or.inl ⟨hw,hy⟩) hS h
theorem tkK (i s:Nat){b:Act}{l:Array Bool}(hS:S w)(h:zR P md ops Q S k0 fuel l b w)(m:Nat:=i)
  (hi:ops[i]?=some ⟨some s,op,ty,ps,af,gd⟩:=by rfl) (hs:Region.noSelect ops=true:=by kernel_rfl) (hf:Region.free md ops listed i=true:=by kernel_rfl) (hr:(Region.ready md ops listed).contains i=true:=by kernel_rfl)
  (hk:(i != k0&&xD md ops k0 m&&(m==i||(!listed.getD m true&&xD md ops m i)))=true:=by kernel_rfl)
  (hQ:∀c a w,Q (.panic c) (a.put (some s) v) w→Q (.panic c) a w:=by exact fun _ _ _ h=>h)
  (hw:Region.wanted ⟨some s,op,ty,ps,af,gd⟩ (yielded ops a.tmps)=true:=by kernel_rfl)
  (hy:∀w,S w→(execOp a.eval ⟨some s,op,ty,ps,af,gd⟩).run P w = .ok (.value v) w:=by intro W0 hSw;(try dsimp only at hSw);go_simp;try with_reducible rfl)
  (hb:a.put (some s) v=b:=by (try simp only[Act.put,tkA1,tkA2,tkA3]);try exact rfl)
  (hl:listed.setIfInBounds i true=l:=by (try simp only[tkA1,tkA2,tkA3]);try exact rfl):zR P md ops Q S k0 (fuel+1) listed a w:=by
 subst hb;subst hl;exact nZ m hi hs hf hr hk hQ (Or.inl ⟨hw,hy⟩) hS h
end
section
variable {W:World} {g:Nat} {z0 z1 z2 z3 z4:Value} {T:TypeId}
theorem But.set1 (W:World)(i:Nat)(u:Value):But g W (W.setCell ⟨g,i,none⟩ u):=⟨rfl,rfl,rfl,by simp[World.setCell],fun b _ hb=>qB _ hb _ _⟩
end
end Go.Proofs.YtefcalgjnkigjaaGreat
