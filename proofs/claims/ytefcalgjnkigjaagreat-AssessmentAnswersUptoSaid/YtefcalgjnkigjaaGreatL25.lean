/- Packed. -/
import Derived.Test.YtefcalgjnkigjaaGreatL24
set_option maxRecDepth 100000
set_option maxHeartbeats 8000000
open Go.Value renaming int → I
open Go.IntKind renaming i64 → O
namespace Go.Proofs.YtefcalgjnkigjaaGreat
open Go.RowKit Sc As
section
variable {W:World} {g:Nat} {z0 z1 z2 z3 z4 z5 z6 z7 z8 z9:Value} {T:TypeId}
theorem Blk.c10 (h:Blk W g #[z0,z1,z2,z3,z4,z5,z6,z7,z8,z9] T):W.cell? ⟨g,0,none⟩=some z0∧W.cell? ⟨g,1,none⟩=some z1∧W.cell? ⟨g,2,none⟩=some z2∧W.cell? ⟨g,3,none⟩=some z3∧W.cell? ⟨g,4,none⟩=some z4∧W.cell? ⟨g,5,none⟩=some z5∧W.cell? ⟨g,6,none⟩=some z6∧W.cell? ⟨g,7,none⟩=some z7∧W.cell? ⟨g,8,none⟩=some z8∧W.cell? ⟨g,9,none⟩=some z9 :=
 ⟨h.cell 0,h.cell 1,h.cell 2,h.cell 3,h.cell 4,h.cell 5,h.cell 6,h.cell 7,h.cell 8,h.cell 9⟩
theorem Blk.f10 (h:Blk W g #[z0,z1,z2,z3,z4,z5,z6,z7,z8,z9] T):W.frozen? ⟨g,0,none⟩=false∧W.frozen? ⟨g,1,none⟩=false∧W.frozen? ⟨g,2,none⟩=false∧W.frozen? ⟨g,3,none⟩=false∧W.frozen? ⟨g,4,none⟩=false∧W.frozen? ⟨g,5,none⟩=false∧W.frozen? ⟨g,6,none⟩=false∧W.frozen? ⟨g,7,none⟩=false∧W.frozen? ⟨g,8,none⟩=false∧W.frozen? ⟨g,9,none⟩=false :=
 ⟨h.fr 0,h.fr 1,h.fr 2,h.fr 3,h.fr 4,h.fr 5,h.fr 6,h.fr 7,h.fr 8,h.fr 9⟩
theorem But.set10 (u0 u1 u2 u3 u4 u5 u6 u7 u8 u9:Value):But g W ((((((((((W.setCell ⟨g,0,none⟩ u0).setCell ⟨g,1,none⟩ u1).setCell ⟨g,2,none⟩ u2).setCell ⟨g,3,none⟩ u3).setCell ⟨g,4,none⟩ u4).setCell ⟨g,5,none⟩ u5).setCell ⟨g,6,none⟩ u6).setCell ⟨g,7,none⟩ u7).setCell ⟨g,8,none⟩ u8).setCell ⟨g,9,none⟩ u9) :=
 (((((((((But.set1 _ _ _).trans (But.set1 _ _ _)).trans (But.set1 _ _ _)).trans (But.set1 _ _ _)).trans (But.set1 _ _ _)).trans (But.set1 _ _ _)).trans (But.set1 _ _ _)).trans (But.set1 _ _ _)).trans (But.set1 _ _ _)).trans (But.set1 _ _ _)
theorem vL {P:Program}{fn:Func}{R:Ending→World→Prop}{a:Act}{u0 u1 u2 u3 u4 u5 u6 u7 u8 u9 v:Value}(h:Blk W g #[z0,z1,z2,z3,z4,z5,z6,z7,z8,z9] T)(hd:a.defers = [])
  (k:∀wf,Blk wf g #[u0,u1,u2,u3,u4,u5,u6,u7,u8,u9] T→But g W wf→(results fn a.tmps).run P wf = .ok v wf∧R (.returned v) wf) :
  bodyPost P fn R .ret a ((((((((((W.setCell ⟨g,0,none⟩ u0).setCell ⟨g,1,none⟩ u1).setCell ⟨g,2,none⟩ u2).setCell ⟨g,3,none⟩ u3).setCell ⟨g,4,none⟩ u4).setCell ⟨g,5,none⟩ u5).setCell ⟨g,6,none⟩ u6).setCell ⟨g,7,none⟩ u7).setCell ⟨g,8,none⟩ u8).setCell ⟨g,9,none⟩ u9):=by
 obtain⟨h1,h2⟩:=k (vW W g u0 u1 u2 u3 u4 u5 u6 u7 u8 u9) (vM h ⟨z0,z1,z2,z3,z4,z5,z6,z7,z8,z9,rfl⟩ u0 u1 u2 u3 u4 u5 u6 u7 u8 u9) (But.set10 u0 u1 u2 u3 u4 u5 u6 u7 u8 u9);exact bodyPost_ret (w:=vW W g u0 u1 u2 u3 u4 u5 u6 u7 u8 u9) h1 hd h2
end
theorem qX.len2 {α:Type}{S:jJ α}{w:World}{T:TypeId}{B n c:Nat}{p:Option Addr}{L:List α}(h:qX S w T B (.slice p n c) L):L.length=n:=by
 rcases h.2 with⟨hv,hn⟩|⟨g,cap,cur,hv,_⟩
 ·cases hv;exact hn
 ·cases hv;rfl
theorem qX.mk00 {α:Type}{S:jJ α}(w:World)(T:TypeId):qX S (w.alloc (.cells #[] T)) T w.heap.size (.slice (some ⟨w.heap.size,0,none⟩) 0 0) [] :=
 World.ownsRow_made w #[] 0 mle (by unfold maxLen;omega) (by simp)
def SpyG (t:Nat) (l:List Int) (w:World) (e:Ending) (w' : World):Prop:=∃(d:Nat) (r:RY) (Y:YLaw) (q:Nat),e = .returned (.agg (yCells r).toArray)∧YV (jP w.heap.size) w' d r Y∧TpB w w' t l q
structure SpY (w W:World) (t:Nat) (l:List Int) (q g d:Nat) (r:RY) (Y:YLaw):Prop where
 tp:TpB w W t l q
 res:Blk W w.heap.size #[.slice none 0 0,.slice none 0 0,I O 0,I O 0,I O 0,.slice none 0 0,I O 0,I O 0,I O 0,I O 0] 29
 bl:Blk W g (yCells r).toArray 29
 yv:YV (fun b=>w.heap.size<b∧b≠g) W d r Y
 hg:w.heap.size<g
section
variable {w W W' : World} {t q q' g d n c:Nat} {p:Option Addr} {l:List Int} {r:RY} {Y:YLaw} {R:List RSx} {R0:RSx}
theorem SpY.tg (h:SpY w W t l q g d r Y):t<w.heap.size:=h.tp.lt
theorem SpY.next (h:SpY w W t l q g d r Y)(ht:qV W' t l q')(hb:But t W W'):SpY w W' t l q' g d r Y :=
 ⟨h.tp.next ht hb,h.res.but hb (Nat.ne_of_gt h.tg),h.bl.but hb (Nat.ne_of_gt (Nat.lt_trans h.tg h.hg)),h.yv.change hb.size fun b k hl=>⟨hb.block b hl (Nat.ne_of_gt (Nat.lt_trans h.tg k.1)),k⟩,h.hg⟩
theorem SpY.below (h:SpY w W t l q g d r Y)(hb:Below W.heap.size W W'):SpY w W' t l q g d r Y:=⟨h.tp.below hb,h.res.below hb,h.bl.below hb,h.yv.below hb,h.hg⟩
theorem SpY.set (h:SpY w W t l q g d r Y)(i:Nat)(u:Value){r' : RY}{Y' : YLaw}(hr:(yCells r).toArray.setIfInBounds i u=(yCells r').toArray)(hy:∀W', YV (fun b=>w.heap.size<b∧b≠g) W' d r Y→YV (fun b=>w.heap.size<b∧b≠g) W' d r' Y') :
  SpY w (W.setCell ⟨g,i,none⟩ u) t l q g d r' Y' :=
 ⟨h.tp.set (Nat.le_of_lt h.hg) u,h.res.far (Nat.ne_of_lt h.hg) u,hr▸h.bl.set i u,hy _ (h.yv.change (by simp[World.setCell]) fun b k _=>⟨qB _ k.2 _ _,k⟩),h.hg⟩
theorem SpY.fin (h:SpY w W t l q g d r Y)(hb:But w.heap.size W W'):YV (jP w.heap.size) W' d r Y∧TpB w W' t l q :=
 ⟨h.yv.change hb.size fun b k hl=>⟨hb.block b hl (Nat.ne_of_gt k.1),Nat.le_of_lt k.1⟩,h.tp.belowB (hb.below mle h.tp.but.size)⟩
theorem SpY.app (h:SpY w W t l q g d r Y)(hb:Below W.heap.size W W')(hl:(R0::R).length=Y.sch.length)(hV:∀k (a:k<(R0::R).length) (b:k<Y.sch.length),SV (fun b=>w.heap.size<b∧b≠g) W d (R0::R)[k] Y.sch[k])
  (hO:qX SSc W' 81 W.heap.size (.slice p n c) ((R0::R) ++ [R0])) (s0:Sch) (S1:List Sch) (hs:Y.sch=s0::S1):SpY w (W'.setCell ⟨g,0,none⟩ (.slice p n c)) t l q g d { r with sp:=p,sn:=n,sc:=c } { Y with sch:=Y.sch ++ [s0] }:=by
 have hgl:=h.bl.lt;have hg:=h.hg;have h2:=h.below hb;have hO' := hO.blocks (w' := W'.setCell ⟨g,0,none⟩ (.slice p n c)) fun b _ hB _=>qB _ (by omega) _ _
 obtain⟨p', c', e,k1,k2,k3,k4,k5⟩:=hO'.cut (n:=n) hO.len2
 cases e
 have hn:n=(Y.sch ++ [s0]).length:=by
  have:((R0::R) ++ [R0]).length=n:=hO.len2;rw[← this,lap,lap,hl];rfl
 have far:∀b,(w.heap.size<b∧b≠g)→b<W.heap.size→(W'.setCell ⟨g,0,none⟩ (.slice p n c)).heap[b]?=W.heap[b]?∧(w.heap.size<b∧b≠g):=fun b k hl=>⟨(qB _ k.2 _ _).trans (hb.block b hl),k⟩
 have hsz:W.heap.size≤(W'.setCell ⟨g,0,none⟩ (.slice p n c)).heap.size:=by rw[jG];exact hb.size
 have yv:=h.yv.change hsz far;have e0:∀a,R0=(R0::R)[0]'a:=fun _=>rfl
 refine⟨h2.tp.set (Nat.le_of_lt hg) _,h2.res.far (Nat.ne_of_lt hg) _,?_,⟨⟨⟨(R0::R) ++ [R0],by rw[lap,lap,hl];rfl,k5,fun k a b=>?_⟩,fun a ea => .inr ?_⟩,hn,k3,yv.steps,yv.tn,yv.tq,yv.due,yv.last,yv.mille,yv.deg,yv.gn,yv.gq,yv.cap,yv.env,yv.unit,yv.width,fun s hs' => ?_,fun s hs' => ?_⟩,hg⟩
 ·exact h2.bl.set 0 _
 ·by_cases hk:k<(R0::R).length
  ·have hk2:k<Y.sch.length:=by omega
   rw[List.getElem_append_left hk]
   show SV _ _ d _ (Y.sch ++ [s0])[k]
   rw[List.getElem_append_left hk2];exact(hV k hk hk2).change hsz far
  ·have a' : k<(R0::R).length+1:=by simpa using a
   have hk2:k=Y.sch.length:=by omega
   subst hk2;rw[List.getElem_append_right (by omega)]
   show SV _ _ d _ (Y.sch ++ [s0])[Y.sch.length]
   rw[List.getElem_append_right (by omega)];simp only[hl,Nat.sub_self,List.getElem_cons_zero];have h0:0<(R0::R).length:=by simp
   have h1:0<Y.sch.length:=by omega
   have:=(hV 0 h0 h1).change hsz far;simp only[List.getElem_cons_zero,hs]at this;exact this
 ·obtain⟨-, -,m3, -⟩:=k2 a ea
  exact⟨by omega,by omega⟩
 ·rcases List.mem_append.1 hs' with m|m
  ·exact h.yv.small s m
  ·rw[List.mem_singleton.1 m];exact h.yv.small s0 (by rw[hs];exact List.mem_cons_self)
 ·rcases List.mem_append.1 hs' with m|m
  ·exact h.yv.terms s m
  ·rw[List.mem_singleton.1 m];exact h.yv.terms s0 (by rw[hs];exact List.mem_cons_self)
end
theorem rT (t:Nat)(l:List Int)(a:Nat)(x:Int)(w:World)(h:qV w t l a):Calls Tryz.prog 10 #[.pointer (some ⟨t,0,none⟩),I O x] w (SpyG t l w):=by
 have htl:=h.lt;have T1:=mh ((TpB.init h).alloc (.cells #[.slice none 0 0,.slice none 0 0,I O 0,I O 0,I O 0,.slice none 0 0,I O 0,I O 0,I O 0,I O 0] 29));have R0:=mh (Blk.new w #[.slice none 0 0,.slice none 0 0,I O 0,I O 0,I O 0,.slice none 0 0,I O 0,I O 0,I O 0,I O 0] 29);have SZ0:=mh (show(w.alloc (.cells #[.slice none 0 0,.slice none 0 0,I O 0,I O 0,I O 0,.slice none 0 0,I O 0,I O 0,I O 0,I O 0] 29)).heap.size=w.heap.size+1 from by simp);have DC:=mh (aZ t l a (w.alloc (.cells #[.slice none 0 0,.slice none 0 0,I O 0,I O 0,I O 0,.slice none 0 0,I O 0,I O 0,I O 0,I O 0] 29)) T1.tape);have TN:=mh (fun (W:World) (q:Nat) (n:Int) (h:qV W t l q) (hn:n≤9223372036854775807)=>qF t l q n W h hn);unfold LawG at DC;clear h
 go_enter Tryz.func10,Tryz.ntmps10
 go_upto_region 2 with (first|(go_at_call 8;(with_reducible refine cmo DC.out ?_);rintro e w1 ⟨d,⟨sp,sn,sc,tp,tn,tc,ldue,llast,lmille,gp,gn,gc,cp,ev,un,wd⟩,Y,q,rfl,hyv,hok,hl3, -,hsm,htp⟩;have HNE:=mh hok.ne;have HLN:=mh hl3;simp only[yCells];have S1:=mh (show SpY w (w1.alloc (.cells #[.slice sp sn sc,.slice tp tn tc,I O ldue,I O llast,I O lmille,.slice gp gn gc,I O cp,I O ev,I O un,I O wd] 29)) t l q w1.heap.size d ⟨sp,sn,sc,tp,tn,tc,ldue,llast,lmille,gp,gn,gc,cp,ev,un,wd⟩ Y from⟨(T1.trans htp).alloc _,((R0.but htp.but (Nat.ne_of_gt htl))).below ((brf _ _).alloc mle _),Blk.new w1 #[.slice sp sn sc,.slice tp tn tc,I O ldue,I O llast,I O lmille,.slice gp gn gc,I O cp,I O ev,I O un,I O wd] 29,hyv.change (by simp) fun b k hl=>⟨((brf _ _).alloc mle _).block b hl,by have:=SZ0.out;unfold jP at k;omega⟩,(by have h1:=htp.but.size;have h2:=SZ0.out;omega)⟩);clear hyv hok hl3 hsm htp)|fail)
 generalize w1.alloc (.cells #[.slice sp sn sc,.slice tp tn tc,I O ldue,I O llast,I O lmille,.slice gp gn gc,I O cp,I O ev,I O un,I O wd] 29)=w2 at *;obtain⟨g,eg⟩:∃g,w1.heap.size=g:=⟨_,rfl⟩;rw[eg]at S1 ⊢;clear eg;have NX:=mh (TN w2 q 9 S1.tp.tape (by omega));have GB:=qG l q (n:=9) (by omega);obtain⟨n,en⟩:∃n,qN l q 9=n:=⟨_,rfl⟩;rw[en]at NX GB;obtain⟨n0,n1⟩:=GB;clear en
 by_cases h1:n=1
 ·subst h1
  go_upto_region 19 with (first|(go_at_call 43;(with_reducible refine cmo NX.out ?_);rintro e w3 ⟨rfl,ht3,hb3⟩;have S3:=mh (S1.next ht3 hb3);clear ht3 hb3;obtain⟨b0,b1,b2,b3,b4,b5,b6,b7,b8,b9⟩:=Blk.c10 S3.bl;obtain⟨bf0,bf1,bf2,bf3,bf4,bf5,bf6,bf7,bf8,bf9⟩:=Blk.f10 S3.bl;have bl0:=S3.bl.lt)|fail)
  have S4:=mh (show SpY w (w3.setCell ⟨g,0,none⟩ (.slice none 0 0)) t l _ g d ⟨none,0,0,tp,tn,tc,ldue,llast,lmille,gp,gn,gc,cp,ev,un,wd⟩ { Y with sch := [] } from S3.set 0 (.slice none 0 0) rfl fun _ k=>⟨⟨⟨[],rfl,qD.nil _ _,fun k h=>by simp at h⟩,fun _ _ => .inl rfl⟩,rfl,Nat.le_refl _,k.steps,k.tn,k.tq,k.due,k.last,k.mille,k.deg,k.gn,k.gq,k.cap,k.env,k.unit,k.width,(fun s h=>by cases h),(fun s h=>by cases h)⟩);generalize w3.setCell ⟨g,0,none⟩ (.slice none 0 0)=w4 at *;clear b0 b1 b2 b3 b4 b5 b6 b7 b8 b9 bf0 bf1 bf2 bf3 bf4 bf5 bf6 bf7 bf8 bf9 bl0;obtain⟨t0,t1,t2,t3,t4,t5,t6,t7,t8,t9⟩:=Blk.c10 S4.res;obtain⟨t0f,t1f,t2f,t3f,t4f,t5f,t6f,t7f,t8f,t9f⟩:=Blk.f10 S4.res;obtain⟨d0,d1,d2,d3,d4,d5,d6,d7,d8,d9⟩:=Blk.c10 S4.bl;have dl:=S4.bl.lt
  go_wp2_with fail
  exact vL S4.res rfl fun wf PB PK=>⟨by obtain⟨c0,c1,c2,c3,c4,c5,c6,c7,c8,c9⟩:=PB.c10;simp[results,yCells,Tryz.results10,go_sem,c0,c1,c2,c3,c4,c5,c6,c7,c8,c9],⟨d,⟨none,0,0,tp,tn,tc,ldue,llast,lmille,gp,gn,gc,cp,ev,un,wd⟩,_,_,rfl,S4.fin PK⟩⟩
 by_cases h3:n=3
 ·subst h3
  go_upto_region 19 with (first|(go_at_call 43;(with_reducible refine cmo NX.out ?_);rintro e w3 ⟨rfl,ht3,hb3⟩;have S3:=mh (S1.next ht3 hb3);clear ht3 hb3;obtain⟨b0,b1,b2,b3,b4,b5,b6,b7,b8,b9⟩:=Blk.c10 S3.bl;obtain⟨bf0,bf1,bf2,bf3,bf4,bf5,bf6,bf7,bf8,bf9⟩:=Blk.f10 S3.bl;have bl0:=S3.bl.lt)|fail)
  have S4:=mh (show SpY w (w3.setCell ⟨g,1,none⟩ (.slice none 0 0)) t l _ g d ⟨sp,sn,sc,none,0,0,ldue,llast,lmille,gp,gn,gc,cp,ev,un,wd⟩ { Y with steps := [] } from S3.set 1 (.slice none 0 0) rfl fun _ k=>⟨k.sch,k.sn,k.sc,⟨by simp,.inl rfl⟩,rfl,(fun _ _ => .inl rfl),k.due,k.last,k.mille,k.deg,k.gn,k.gq,k.cap,k.env,k.unit,k.width,k.small,k.terms⟩);generalize w3.setCell ⟨g,1,none⟩ (.slice none 0 0)=w4 at *;clear b0 b1 b2 b3 b4 b5 b6 b7 b8 b9 bf0 bf1 bf2 bf3 bf4 bf5 bf6 bf7 bf8 bf9 bl0;obtain⟨t0,t1,t2,t3,t4,t5,t6,t7,t8,t9⟩:=Blk.c10 S4.res;obtain⟨t0f,t1f,t2f,t3f,t4f,t5f,t6f,t7f,t8f,t9f⟩:=Blk.f10 S4.res;obtain⟨d0,d1,d2,d3,d4,d5,d6,d7,d8,d9⟩:=Blk.c10 S4.bl;have dl:=S4.bl.lt
  go_wp2_with fail
  exact vL S4.res rfl fun wf PB PK=>⟨by obtain⟨c0,c1,c2,c3,c4,c5,c6,c7,c8,c9⟩:=PB.c10;simp[results,yCells,Tryz.results10,go_sem,c0,c1,c2,c3,c4,c5,c6,c7,c8,c9],⟨d,⟨sp,sn,sc,none,0,0,ldue,llast,lmille,gp,gn,gc,cp,ev,un,wd⟩,_,_,rfl,S4.fin PK⟩⟩
 by_cases h4:n=4
 ·subst h4
  go_upto_region 19 with (first|(go_at_call 43;(with_reducible refine cmo NX.out ?_);rintro e w3 ⟨rfl,ht3,hb3⟩;have S3:=mh (S1.next ht3 hb3);clear ht3 hb3;obtain⟨b0,b1,b2,b3,b4,b5,b6,b7,b8,b9⟩:=Blk.c10 S3.bl;obtain⟨bf0,bf1,bf2,bf3,bf4,bf5,bf6,bf7,bf8,bf9⟩:=Blk.f10 S3.bl;have bl0:=S3.bl.lt)|fail)
  have S4:=mh (show SpY w (w3.setCell ⟨g,2,none⟩ (I O x)) t l _ g d ⟨sp,sn,sc,tp,tn,tc,x,llast,lmille,gp,gn,gc,cp,ev,un,wd⟩ { Y with late:={ Y.late with due:=x } } from S3.set 2 (I O x) rfl fun _ k=>⟨k.sch,k.sn,k.sc,k.steps,k.tn,k.tq,rfl,k.last,k.mille,k.deg,k.gn,k.gq,k.cap,k.env,k.unit,k.width,k.small,k.terms⟩);generalize w3.setCell ⟨g,2,none⟩ (I O x)=w4 at *;clear b0 b1 b2 b3 b4 b5 b6 b7 b8 b9 bf0 bf1 bf2 bf3 bf4 bf5 bf6 bf7 bf8 bf9 bl0;obtain⟨t0,t1,t2,t3,t4,t5,t6,t7,t8,t9⟩:=Blk.c10 S4.res;obtain⟨t0f,t1f,t2f,t3f,t4f,t5f,t6f,t7f,t8f,t9f⟩:=Blk.f10 S4.res;obtain⟨d0,d1,d2,d3,d4,d5,d6,d7,d8,d9⟩:=Blk.c10 S4.bl;have dl:=S4.bl.lt
  go_wp2_with fail
  exact vL S4.res rfl fun wf PB PK=>⟨by obtain⟨c0,c1,c2,c3,c4,c5,c6,c7,c8,c9⟩:=PB.c10;simp[results,yCells,Tryz.results10,go_sem,c0,c1,c2,c3,c4,c5,c6,c7,c8,c9],⟨d,⟨sp,sn,sc,tp,tn,tc,x,llast,lmille,gp,gn,gc,cp,ev,un,wd⟩,_,_,rfl,S4.fin PK⟩⟩
 by_cases h5:n=5
 ·subst h5
  go_upto_region 19 with (first|(go_at_call 43;(with_reducible refine cmo NX.out ?_);rintro e w3 ⟨rfl,ht3,hb3⟩;have S3:=mh (S1.next ht3 hb3);clear ht3 hb3;obtain⟨b0,b1,b2,b3,b4,b5,b6,b7,b8,b9⟩:=Blk.c10 S3.bl;obtain⟨bf0,bf1,bf2,bf3,bf4,bf5,bf6,bf7,bf8,bf9⟩:=Blk.f10 S3.bl;have bl0:=S3.bl.lt)|fail)
  have S4:=mh (show SpY w (w3.setCell ⟨g,6,none⟩ (I O x)) t l _ g d ⟨sp,sn,sc,tp,tn,tc,ldue,llast,lmille,gp,gn,gc,x,ev,un,wd⟩ { Y with cap:=x } from S3.set 6 (I O x) rfl fun _ k=>⟨k.sch,k.sn,k.sc,k.steps,k.tn,k.tq,k.due,k.last,k.mille,k.deg,k.gn,k.gq,rfl,k.env,k.unit,k.width,k.small,k.terms⟩);generalize w3.setCell ⟨g,6,none⟩ (I O x)=w4 at *;clear b0 b1 b2 b3 b4 b5 b6 b7 b8 b9 bf0 bf1 bf2 bf3 bf4 bf5 bf6 bf7 bf8 bf9 bl0;obtain⟨t0,t1,t2,t3,t4,t5,t6,t7,t8,t9⟩:=Blk.c10 S4.res;obtain⟨t0f,t1f,t2f,t3f,t4f,t5f,t6f,t7f,t8f,t9f⟩:=Blk.f10 S4.res;obtain⟨d0,d1,d2,d3,d4,d5,d6,d7,d8,d9⟩:=Blk.c10 S4.bl;have dl:=S4.bl.lt
  go_wp2_with fail
  exact vL S4.res rfl fun wf PB PK=>⟨by obtain⟨c0,c1,c2,c3,c4,c5,c6,c7,c8,c9⟩:=PB.c10;simp[results,yCells,Tryz.results10,go_sem,c0,c1,c2,c3,c4,c5,c6,c7,c8,c9],⟨d,⟨sp,sn,sc,tp,tn,tc,ldue,llast,lmille,gp,gn,gc,x,ev,un,wd⟩,_,_,rfl,S4.fin PK⟩⟩
 by_cases h6:n=6
 ·subst h6
  go_upto_region 19 with (first|(go_at_call 43;(with_reducible refine cmo NX.out ?_);rintro e w3 ⟨rfl,ht3,hb3⟩;have S3:=mh (S1.next ht3 hb3);clear ht3 hb3;obtain⟨b0,b1,b2,b3,b4,b5,b6,b7,b8,b9⟩:=Blk.c10 S3.bl;obtain⟨bf0,bf1,bf2,bf3,bf4,bf5,bf6,bf7,bf8,bf9⟩:=Blk.f10 S3.bl;have bl0:=S3.bl.lt)|fail)
  have S4:=mh (show SpY w (w3.setCell ⟨g,7,none⟩ (I O x)) t l _ g d ⟨sp,sn,sc,tp,tn,tc,ldue,llast,lmille,gp,gn,gc,cp,x,un,wd⟩ { Y with env:=x } from S3.set 7 (I O x) rfl fun _ k=>⟨k.sch,k.sn,k.sc,k.steps,k.tn,k.tq,k.due,k.last,k.mille,k.deg,k.gn,k.gq,k.cap,rfl,k.unit,k.width,k.small,k.terms⟩);generalize w3.setCell ⟨g,7,none⟩ (I O x)=w4 at *;clear b0 b1 b2 b3 b4 b5 b6 b7 b8 b9 bf0 bf1 bf2 bf3 bf4 bf5 bf6 bf7 bf8 bf9 bl0;obtain⟨t0,t1,t2,t3,t4,t5,t6,t7,t8,t9⟩:=Blk.c10 S4.res;obtain⟨t0f,t1f,t2f,t3f,t4f,t5f,t6f,t7f,t8f,t9f⟩:=Blk.f10 S4.res;obtain⟨d0,d1,d2,d3,d4,d5,d6,d7,d8,d9⟩:=Blk.c10 S4.bl;have dl:=S4.bl.lt
  go_wp2_with fail
  exact vL S4.res rfl fun wf PB PK=>⟨by obtain⟨c0,c1,c2,c3,c4,c5,c6,c7,c8,c9⟩:=PB.c10;simp[results,yCells,Tryz.results10,go_sem,c0,c1,c2,c3,c4,c5,c6,c7,c8,c9],⟨d,⟨sp,sn,sc,tp,tn,tc,ldue,llast,lmille,gp,gn,gc,cp,x,un,wd⟩,_,_,rfl,S4.fin PK⟩⟩
 by_cases h7:n=7
 ·subst h7
  go_upto_region 19 with (first|(go_at_call 43;(with_reducible refine cmo NX.out ?_);rintro e w3 ⟨rfl,ht3,hb3⟩;have S3:=mh (S1.next ht3 hb3);clear ht3 hb3;obtain⟨b0,b1,b2,b3,b4,b5,b6,b7,b8,b9⟩:=Blk.c10 S3.bl;obtain⟨bf0,bf1,bf2,bf3,bf4,bf5,bf6,bf7,bf8,bf9⟩:=Blk.f10 S3.bl;have bl0:=S3.bl.lt)|fail)
  have S4:=mh (show SpY w (w3.setCell ⟨g,8,none⟩ (I O x)) t l _ g d ⟨sp,sn,sc,tp,tn,tc,ldue,llast,lmille,gp,gn,gc,cp,ev,x,wd⟩ { Y with unit:=x } from S3.set 8 (I O x) rfl fun _ k=>⟨k.sch,k.sn,k.sc,k.steps,k.tn,k.tq,k.due,k.last,k.mille,k.deg,k.gn,k.gq,k.cap,k.env,rfl,k.width,k.small,k.terms⟩);generalize w3.setCell ⟨g,8,none⟩ (I O x)=w4 at *;clear b0 b1 b2 b3 b4 b5 b6 b7 b8 b9 bf0 bf1 bf2 bf3 bf4 bf5 bf6 bf7 bf8 bf9 bl0;obtain⟨t0,t1,t2,t3,t4,t5,t6,t7,t8,t9⟩:=Blk.c10 S4.res;obtain⟨t0f,t1f,t2f,t3f,t4f,t5f,t6f,t7f,t8f,t9f⟩:=Blk.f10 S4.res;obtain⟨d0,d1,d2,d3,d4,d5,d6,d7,d8,d9⟩:=Blk.c10 S4.bl;have dl:=S4.bl.lt
  go_wp2_with fail
  exact vL S4.res rfl fun wf PB PK=>⟨by obtain⟨c0,c1,c2,c3,c4,c5,c6,c7,c8,c9⟩:=PB.c10;simp[results,yCells,Tryz.results10,go_sem,c0,c1,c2,c3,c4,c5,c6,c7,c8,c9],⟨d,⟨sp,sn,sc,tp,tn,tc,ldue,llast,lmille,gp,gn,gc,cp,ev,x,wd⟩,_,_,rfl,S4.fin PK⟩⟩
 by_cases h8:n=8
 ·subst h8
  go_upto_region 19 with (first|(go_at_call 43;(with_reducible refine cmo NX.out ?_);rintro e w3 ⟨rfl,ht3,hb3⟩;have S3:=mh (S1.next ht3 hb3);clear ht3 hb3;obtain⟨b0,b1,b2,b3,b4,b5,b6,b7,b8,b9⟩:=Blk.c10 S3.bl;obtain⟨bf0,bf1,bf2,bf3,bf4,bf5,bf6,bf7,bf8,bf9⟩:=Blk.f10 S3.bl;have bl0:=S3.bl.lt)|fail)
  have S4:=mh (show SpY w (w3.setCell ⟨g,9,none⟩ (I O x)) t l _ g d ⟨sp,sn,sc,tp,tn,tc,ldue,llast,lmille,gp,gn,gc,cp,ev,un,x⟩ { Y with width:=x } from S3.set 9 (I O x) rfl fun _ k=>⟨k.sch,k.sn,k.sc,k.steps,k.tn,k.tq,k.due,k.last,k.mille,k.deg,k.gn,k.gq,k.cap,k.env,k.unit,rfl,k.small,k.terms⟩);generalize w3.setCell ⟨g,9,none⟩ (I O x)=w4 at *;clear b0 b1 b2 b3 b4 b5 b6 b7 b8 b9 bf0 bf1 bf2 bf3 bf4 bf5 bf6 bf7 bf8 bf9 bl0;obtain⟨t0,t1,t2,t3,t4,t5,t6,t7,t8,t9⟩:=Blk.c10 S4.res;obtain⟨t0f,t1f,t2f,t3f,t4f,t5f,t6f,t7f,t8f,t9f⟩:=Blk.f10 S4.res;obtain⟨d0,d1,d2,d3,d4,d5,d6,d7,d8,d9⟩:=Blk.c10 S4.bl;have dl:=S4.bl.lt
  go_wp2_with fail
  exact vL S4.res rfl fun wf PB PK=>⟨by obtain⟨c0,c1,c2,c3,c4,c5,c6,c7,c8,c9⟩:=PB.c10;simp[results,yCells,Tryz.results10,go_sem,c0,c1,c2,c3,c4,c5,c6,c7,c8,c9],⟨d,⟨sp,sn,sc,tp,tn,tc,ldue,llast,lmille,gp,gn,gc,cp,ev,un,x⟩,_,_,rfl,S4.fin PK⟩⟩
 by_cases h2:n=2
 ·subst h2
  go_upto_region 6 with (first|(go_at_call 43;(with_reducible refine cmo NX.out ?_);rintro e w3 ⟨rfl,ht3,hb3⟩;have S3:=mh (S1.next ht3 hb3);clear ht3 hb3;obtain⟨b0,b1,b2,b3,b4,b5,b6,b7,b8,b9⟩:=Blk.c10 S3.bl;obtain⟨bf0,bf1,bf2,bf3,bf4,bf5,bf6,bf7,bf8,bf9⟩:=Blk.f10 S3.bl;have bl0:=S3.bl.lt)|fail)
  obtain⟨⟨RR0,hrl,hrr,hrv⟩,hrq⟩:=S3.yv.sch;have hsn:=S3.yv.sn;obtain⟨s0,S1_,hs⟩:∃s0 S1_,Y.sch=s0::S1_:=List.exists_cons_of_ne_nil (fun e=>HNE.out (by rw[e];rfl));obtain⟨⟨rn,rnm,⟨rto,rtn,rtm,rtp,rtl,rtc⟩,rbp,rbn,rbc,rle,rex,rne⟩,R1,rfl⟩:∃r0 R1,RR0=r0::R1:=List.exists_cons_of_ne_nil (by intro e;subst e;rw[hs]at hrl;simp at hrl);obtain⟨sb,so,esp,hsb,hsc⟩:=hrr.at (k:=0) (by simp);simp only at esp hsn hrr;subst esp;have hsc' : ∀i u,(zN ⟨rn,rnm,⟨rto,rtn,rtm,rtp,rtl,rtc⟩,rbp,rbn,rbc,rle,rex,rne⟩)[i]?=some u→w3.cell? ⟨sb,so+i,none⟩=some u:=fun i u h=>by have:=hsc i u h;rwa [Nat.zero_mul,Nat.add_zero]at this
  have HS:=mh hs;have LEN:=mh (show(⟨rn,rnm,⟨rto,rtn,rtm,rtp,rtl,rtc⟩,rbp,rbn,rbc,rle,rex,rne⟩::R1:List RSx).length=sn from hrl.trans hsn.symm);have LEN5:=mh (show sn≤3 from by have:=HLN.out;omega);have HRL:=mh hrl;have RR:=mh hrr;have HSV:=mh hrv;have hn1:0<sn:=by have:=LEN.out;simp at this;omega
  have hn2:(0:Int)<(sn:Int):=by omega
  have KS:=mh (show ∀W', Below w3.heap.size w3 W' → W'.cell? ⟨g,0,none⟩=some (.slice (some ⟨sb,so,none⟩) sn sc)∧W'.cell? ⟨sb,so,none⟩=some (I O rn)∧W'.cell? ⟨sb,so+1,none⟩=some (.string rnm)∧W'.cell? ⟨sb,so+2,none⟩=some (I O rto)∧W'.cell? ⟨sb,so+3,none⟩=some (I O rtn)∧W'.cell? ⟨sb,so+4,none⟩=some (I O rtm)∧W'.cell? ⟨sb,so+5,none⟩=some (.slice rtp rtl rtc)∧W'.cell? ⟨sb,so+6,none⟩=some (.slice rbp rbn rbc)∧W'.cell? ⟨sb,so+7,none⟩=some (I O rle)∧W'.cell? ⟨sb,so+8,none⟩=some (I O rex)∧W'.cell? ⟨sb,so+9,none⟩=some (.bool rne) from fun W' hb=>⟨(hb.cell (p:=⟨g,0,none⟩) bl0).trans b0,(hb.cell (p:=⟨sb,so,none⟩) hsb).trans (hsc' 0 _ rfl),(hb.cell (p:=⟨sb,so+1,none⟩) hsb).trans (hsc' 1 _ rfl),(hb.cell (p:=⟨sb,so+2,none⟩) hsb).trans (hsc' 2 _ rfl),(hb.cell (p:=⟨sb,so+3,none⟩) hsb).trans (hsc' 3 _ rfl),(hb.cell (p:=⟨sb,so+4,none⟩) hsb).trans (hsc' 4 _ rfl),(hb.cell (p:=⟨sb,so+5,none⟩) hsb).trans (hsc' 5 _ rfl),(hb.cell (p:=⟨sb,so+6,none⟩) hsb).trans (hsc' 6 _ rfl),(hb.cell (p:=⟨sb,so+7,none⟩) hsb).trans (hsc' 7 _ rfl),(hb.cell (p:=⟨sb,so+8,none⟩) hsb).trans (hsc' 8 _ rfl),(hb.cell (p:=⟨sb,so+9,none⟩) hsb).trans (hsc' 9 _ rfl)⟩);have BX0:=mh ((brf w3.heap.size w3).drew);clear hrl hsn hs hrq hsc hsc' hsb hrr hrv;refine kD (fun w' => w'.cell? ⟨g,0,none⟩=some (.slice (some ⟨sb,so,none⟩) sn sc)∧w'.cell? ⟨sb,so,none⟩=some (I O rn)∧w'.cell? ⟨sb,so+1,none⟩=some (.string rnm)∧w'.cell? ⟨sb,so+2,none⟩=some (I O rto)∧w'.cell? ⟨sb,so+3,none⟩=some (I O rtn)∧w'.cell? ⟨sb,so+4,none⟩=some (I O rtm)∧w'.cell? ⟨sb,so+5,none⟩=some (.slice rtp rtl rtc)∧w'.cell? ⟨sb,so+6,none⟩=some (.slice rbp rbn rbc)∧w'.cell? ⟨sb,so+7,none⟩=some (I O rle)∧w'.cell? ⟨sb,so+8,none⟩=some (I O rex)∧w'.cell? ⟨sb,so+9,none⟩=some (.bool rne)) 11 (by kernel_rfl) (KS _ BX0) (fun hHeld=>?_);generalize w3.drew=wz at *;refine tkK 1 16 hHeld ?_;refine tkK 2 17 hHeld ?_;refine tkK 4 19 hHeld ?_;refine tkK 5 20 hHeld ?_;refine tkK 6 21 hHeld ?_;refine tkK 7 22 hHeld ?_;refine gL (i:=0) (j:=8) (o:=⟨some 15,_,_,_,_,_⟩) (p:=⟨some 23,_,_,_,_,_⟩) (by kernel_rfl) (by kernel_rfl) rfl rfl (fun K hK=>?_) (fun K hK=>?_)
  ·go_simp
   have hal:=(brf wz.heap.size wz).alloc mle (.cells #[] 81);have BX1:=mh (BX0.trans (hal.mono BX0.size));have OV1:=mh ((qX.mk00 (S:=SSc) wz 81).mono BX0.size);have GE:=mh (show wz.heap.size<(wz.alloc (.cells #[] 81)).heap.size from by simp);clear hal;generalize wz.heap.size=ge at *;generalize wz.alloc (.cells #[] 81)=x0_ at *;have KN:=KS.out _ BX1.out;refine hK.out _ _ KN ?_;clear hK K
   (try dsimp only[Act.put])
   try simp only[mnA,mnB,mnC]
   refine gL (i:=3) (j:=8) (o:=⟨some 18,_,_,_,_,_⟩) (p:=⟨some 23,_,_,_,_,_⟩) (by kernel_rfl) (by kernel_rfl) rfl rfl (fun K hK=>?_) (fun K hK=>?_)
   ·refine qX.stepAp fY (by rfl) (.tmp 15) (.tmp 17) (by rfl) w3.heap.size (.slice (some ⟨ge,0,none⟩) 0 0) [] (⟨rn,rnm,⟨rto,rtn,rtm,rtp,rtl,rtc⟩,rbp,rbn,rbc,rle,rex,rne⟩::R1) (some ⟨sb,so,none⟩) sc sn LEN OV1 (RR.below BX1) (fun h=>by cases h) (by rfl) (by rfl) BX1.size (by have h1:=LEN.out;have h2:=LEN5.out;simp only[List.length_nil];omega) (by decide) ?_
    intro v5 w5 hO5 hap5;rw[List.nil_append]at hO5;have OV2:=mh hO5;have BX2:=mh (BX1.trans hap5.below);have KN:=KS.out _ BX2.out;clear hO5 hap5;refine hK.out _ _ KN ?_;clear hK K
    (try dsimp only[Act.put])
    try simp only[mnA,mnB,mnC]
    refine jM (i:=8) (o:=⟨some 23,_,_,_,_,_⟩) (by kernel_rfl) (by kernel_rfl) rfl (fun K hK=>?_)
    go_simp
    have hal:=(brf w5.heap.size w5).alloc mle (.cells #[I O rn,.string rnm,I O rto,I O rtn,I O rtm,.slice rtp rtl rtc,.slice rbp rbn rbc,I O rle,I O rex,.bool rne] 81);have BX3:=mh (BX2.trans (hal.mono BX2.size));have LX3:=mh (show qD SSc (w5.alloc (.cells #[I O rn,.string rnm,I O rto,I O rtn,I O rtm,.slice rtp rtl rtc,.slice rbp rbn rbc,I O rle,I O rex,.bool rne] 81)) (some ⟨w5.heap.size,0,none⟩) [⟨rn,rnm,⟨rto,rtn,rtm,rtp,rtl,rtc⟩,rbp,rbn,rbc,rle,rex,rne⟩] from qD.lit (S:=SSc) w5 81 [⟨rn,rnm,⟨rto,rtn,rtm,rtp,rtl,rtc⟩,rbp,rbn,rbc,rle,rex,rne⟩] (by show 1≤_;unfold maxLen;omega));have OV3:=mh (OV2.below hal);have GLT3:=mh (show w5.heap.size<(w5.alloc (.cells #[I O rn,.string rnm,I O rto,I O rtn,I O rtm,.slice rtp rtl rtc,.slice rbp rbn rbc,I O rle,I O rex,.bool rne] 81)).heap.size∧True∧w3.heap.size≤w5.heap.size from⟨by simp,trivial,BX2.size⟩);clear hal;generalize w5.heap.size=gl at *;generalize w5.alloc (.cells #[I O rn,.string rnm,I O rto,I O rtn,I O rtm,.slice rtp rtl rtc,.slice rbp rbn rbc,I O rle,I O rex,.bool rne] 81)=x038_ at *;have KN:=KS.out _ BX3.out;refine hK.out _ _ KN ?_;clear hK K
    (try dsimp only[Act.put])
    try simp only[mnA,mnB,mnC]
    refine jM (i:=9) (o:=⟨some 24,_,_,_,_,_⟩) (by kernel_rfl) (by kernel_rfl) rfl (fun K hK=>?_)
    refine qX.stepAp fY (by rfl) (.tmp 18) (.tmp 23) (by rfl) w3.heap.size v5 (⟨rn,rnm,⟨rto,rtn,rtm,rtp,rtl,rtc⟩,rbp,rbn,rbc,rle,rex,rne⟩::R1) [⟨rn,rnm,⟨rto,rtn,rtm,rtp,rtl,rtc⟩,rbp,rbn,rbc,rle,rex,rne⟩] (some ⟨gl,0,none⟩) 1 1 rfl OV3 LX3 (fun h=>by cases h) (by rfl) (by rfl) BX3.size (by have h1:=LEN.out;have h2:=LEN5.out;omega) (by decide) ?_
    intro v6 w6 hO6 hap6;have HB6:=mh (BX3.trans hap6.below);have KN2:=KS.out _ HB6.out;have k3f:=(HB6.frozen (p:=⟨g,0,none⟩) bl0).trans bf0;have kl:=nll bl0 HB6.size;obtain⟨p6,c6,rfl, -⟩:=hO6.cut rfl;obtain⟨n6,en6⟩:∃n6,(⟨rn,rnm,⟨rto,rtn,rtm,rtp,rtl,rtc⟩,rbp,rbn,rbc,rle,rex,rne⟩::R1 ++ [⟨rn,rnm,⟨rto,rtn,rtm,rtp,rtl,rtc⟩,rbp,rbn,rbc,rle,rex,rne⟩]:List RSx).length=n6:=⟨_,rfl⟩;rw[en6]at hO6 ⊢;have S4:=mh (S3.app HB6 HRL HSV hO6 s0 S1_ HS);clear hO6 hap6 en6;refine hK.out _ _ KN2 ?_;clear hK K
    (try dsimp only[Act.put])
    try simp only[mnA,mnB,mnC]
    refine tkK 10 25 KN2 ?_
    refine yJ (o:=⟨none,_,_,_,_,_⟩) (by kernel_rfl) rfl (fun K hK=>?_)
    go_simp
    refine hK.out _ _ ?_
    clear hK K
    (try dsimp only[Act.put])
    try simp only[mnA,mnB,mnC]
    refine wpAnyH_done (by kernel_rfl) ?_ _
    generalize w6.setCell ⟨g,0,none⟩ (.slice p6 n6 c6)=w7 at *;clear KN KN2 k3f kl hHeld b0 bf0 b1 bf1 b2 bf2 b3 bf3 b4 bf4 b5 bf5 b6 bf6 b7 bf7 b8 bf8 b9 bf9 bl0
    go_upto_region 19 with fail
    obtain⟨t0,t1,t2,t3,t4,t5,t6,t7,t8,t9⟩:=Blk.c10 S4.res;obtain⟨t0f,t1f,t2f,t3f,t4f,t5f,t6f,t7f,t8f,t9f⟩:=Blk.f10 S4.res;obtain⟨d0,d1,d2,d3,d4,d5,d6,d7,d8,d9⟩:=Blk.c10 S4.bl;have dl:=S4.bl.lt
    go_wp2_with fail
    exact vL S4.res rfl fun wf PB PK=>⟨by obtain⟨c0,c1,c2,c3,c4,c5,c6,c7,c8,c9⟩:=PB.c10;simp[results,yCells,Tryz.results10,go_sem,c0,c1,c2,c3,c4,c5,c6,c7,c8,c9],⟨d,⟨p6,n6,c6,tp,tn,tc,ldue,llast,lmille,gp,gn,gc,cp,ev,un,wd⟩,_,_,rfl,S4.fin PK⟩⟩
   ·go_simp
    have hal:=(brf x0_.heap.size x0_).alloc mle (.cells #[I O rn,.string rnm,I O rto,I O rtn,I O rtm,.slice rtp rtl rtc,.slice rbp rbn rbc,I O rle,I O rex,.bool rne] 81);have BX2:=mh (BX1.trans (hal.mono BX1.size));have LX2:=mh (show qD SSc (x0_.alloc (.cells #[I O rn,.string rnm,I O rto,I O rtn,I O rtm,.slice rtp rtl rtc,.slice rbp rbn rbc,I O rle,I O rex,.bool rne] 81)) (some ⟨x0_.heap.size,0,none⟩) [⟨rn,rnm,⟨rto,rtn,rtm,rtp,rtl,rtc⟩,rbp,rbn,rbc,rle,rex,rne⟩] from qD.lit (S:=SSc) x0_ 81 [⟨rn,rnm,⟨rto,rtn,rtm,rtp,rtl,rtc⟩,rbp,rbn,rbc,rle,rex,rne⟩] (by show 1≤_;unfold maxLen;omega));have OV2:=mh (OV1.below hal);have GLT2:=mh (show x0_.heap.size<(x0_.alloc (.cells #[I O rn,.string rnm,I O rto,I O rtn,I O rtm,.slice rtp rtl rtc,.slice rbp rbn rbc,I O rle,I O rex,.bool rne] 81)).heap.size∧x0_.heap.size≠ge∧w3.heap.size≤x0_.heap.size from⟨by simp,by have:=GE.out;omega,BX1.size⟩);clear hal;generalize x0_.heap.size=gl at *;generalize x0_.alloc (.cells #[I O rn,.string rnm,I O rto,I O rtn,I O rtm,.slice rtp rtl rtc,.slice rbp rbn rbc,I O rle,I O rex,.bool rne] 81)=x08_ at *;have KN:=KS.out _ BX2.out;refine hK.out _ _ KN ?_;clear hK K
    (try dsimp only[Act.put])
    try simp only[mnA,mnB,mnC]
    refine jM (i:=3) (o:=⟨some 18,_,_,_,_,_⟩) (by kernel_rfl) (by kernel_rfl) rfl (fun K hK=>?_)
    refine qX.stepAp fY (by rfl) (.tmp 15) (.tmp 17) (by rfl) w3.heap.size (.slice (some ⟨ge,0,none⟩) 0 0) [] (⟨rn,rnm,⟨rto,rtn,rtm,rtp,rtl,rtc⟩,rbp,rbn,rbc,rle,rex,rne⟩::R1) (some ⟨sb,so,none⟩) sc sn LEN OV2 (RR.below BX2) (fun h=>by cases h) (by rfl) (by rfl) BX2.size (by have h1:=LEN.out;have h2:=LEN5.out;simp only[List.length_nil];omega) (by decide) ?_
    intro v5 w5 hO5 hap5;rw[List.nil_append]at hO5;have OV3:=mh hO5;have BX3:=mh (BX2.trans hap5.below);have LX3:=mh (LX2.blocks hap5.size fun a ea => .inr (by cases ea;exact hap5.far gl GLT2.1 (fun e=>GLT2.2.1 (by cases e;rfl))));have GLT3:=mh (show gl<w5.heap.size∧True∧w3.heap.size≤gl from⟨nll GLT2.1 hap5.size,trivial,GLT2.2.2⟩);have KN:=KS.out _ BX3.out;clear hO5 hap5;refine hK.out _ _ KN ?_;clear hK K
    (try dsimp only[Act.put])
    try simp only[mnA,mnB,mnC]
    refine jM (i:=9) (o:=⟨some 24,_,_,_,_,_⟩) (by kernel_rfl) (by kernel_rfl) rfl (fun K hK=>?_)
    refine qX.stepAp fY (by rfl) (.tmp 18) (.tmp 23) (by rfl) w3.heap.size v5 (⟨rn,rnm,⟨rto,rtn,rtm,rtp,rtl,rtc⟩,rbp,rbn,rbc,rle,rex,rne⟩::R1) [⟨rn,rnm,⟨rto,rtn,rtm,rtp,rtl,rtc⟩,rbp,rbn,rbc,rle,rex,rne⟩] (some ⟨gl,0,none⟩) 1 1 rfl OV3 LX3 (fun h=>by cases h) (by rfl) (by rfl) BX3.size (by have h1:=LEN.out;have h2:=LEN5.out;omega) (by decide) ?_
    intro v6 w6 hO6 hap6;have HB6:=mh (BX3.trans hap6.below);have KN2:=KS.out _ HB6.out;have k3f:=(HB6.frozen (p:=⟨g,0,none⟩) bl0).trans bf0;have kl:=nll bl0 HB6.size;obtain⟨p6,c6,rfl, -⟩:=hO6.cut rfl;obtain⟨n6,en6⟩:∃n6,(⟨rn,rnm,⟨rto,rtn,rtm,rtp,rtl,rtc⟩,rbp,rbn,rbc,rle,rex,rne⟩::R1 ++ [⟨rn,rnm,⟨rto,rtn,rtm,rtp,rtl,rtc⟩,rbp,rbn,rbc,rle,rex,rne⟩]:List RSx).length=n6:=⟨_,rfl⟩;rw[en6]at hO6 ⊢;have S4:=mh (S3.app HB6 HRL HSV hO6 s0 S1_ HS);clear hO6 hap6 en6;refine hK.out _ _ KN2 ?_;clear hK K
    (try dsimp only[Act.put])
    try simp only[mnA,mnB,mnC]
    refine tkK 10 25 KN2 ?_
    refine yJ (o:=⟨none,_,_,_,_,_⟩) (by kernel_rfl) rfl (fun K hK=>?_)
    go_simp
    refine hK.out _ _ ?_
    clear hK K
    (try dsimp only[Act.put])
    try simp only[mnA,mnB,mnC]
    refine wpAnyH_done (by kernel_rfl) ?_ _
    generalize w6.setCell ⟨g,0,none⟩ (.slice p6 n6 c6)=w7 at *;clear KN KN2 k3f kl hHeld b0 bf0 b1 bf1 b2 bf2 b3 bf3 b4 bf4 b5 bf5 b6 bf6 b7 bf7 b8 bf8 b9 bf9 bl0
    go_upto_region 19 with fail
    obtain⟨t0,t1,t2,t3,t4,t5,t6,t7,t8,t9⟩:=Blk.c10 S4.res;obtain⟨t0f,t1f,t2f,t3f,t4f,t5f,t6f,t7f,t8f,t9f⟩:=Blk.f10 S4.res;obtain⟨d0,d1,d2,d3,d4,d5,d6,d7,d8,d9⟩:=Blk.c10 S4.bl;have dl:=S4.bl.lt
    go_wp2_with fail
    exact vL S4.res rfl fun wf PB PK=>⟨by obtain⟨c0,c1,c2,c3,c4,c5,c6,c7,c8,c9⟩:=PB.c10;simp[results,yCells,Tryz.results10,go_sem,c0,c1,c2,c3,c4,c5,c6,c7,c8,c9],⟨d,⟨p6,n6,c6,tp,tn,tc,ldue,llast,lmille,gp,gn,gc,cp,ev,un,wd⟩,_,_,rfl,S4.fin PK⟩⟩
  ·go_simp
   have hal:=(brf wz.heap.size wz).alloc mle (.cells #[I O rn,.string rnm,I O rto,I O rtn,I O rtm,.slice rtp rtl rtc,.slice rbp rbn rbc,I O rle,I O rex,.bool rne] 81);have BX1:=mh (BX0.trans (hal.mono BX0.size));have LX1:=mh (show qD SSc (wz.alloc (.cells #[I O rn,.string rnm,I O rto,I O rtn,I O rtm,.slice rtp rtl rtc,.slice rbp rbn rbc,I O rle,I O rex,.bool rne] 81)) (some ⟨wz.heap.size,0,none⟩) [⟨rn,rnm,⟨rto,rtn,rtm,rtp,rtl,rtc⟩,rbp,rbn,rbc,rle,rex,rne⟩] from qD.lit (S:=SSc) wz 81 [⟨rn,rnm,⟨rto,rtn,rtm,rtp,rtl,rtc⟩,rbp,rbn,rbc,rle,rex,rne⟩] (by show 1≤_;unfold maxLen;omega));have GLT1:=mh (show wz.heap.size<(wz.alloc (.cells #[I O rn,.string rnm,I O rto,I O rtn,I O rtm,.slice rtp rtl rtc,.slice rbp rbn rbc,I O rle,I O rex,.bool rne] 81)).heap.size∧True∧w3.heap.size≤wz.heap.size from⟨by simp,trivial,BX0.size⟩);clear hal;generalize wz.heap.size=gl at *;generalize wz.alloc (.cells #[I O rn,.string rnm,I O rto,I O rtn,I O rtm,.slice rtp rtl rtc,.slice rbp rbn rbc,I O rle,I O rex,.bool rne] 81)=x8_ at *;have KN:=KS.out _ BX1.out;refine hK.out _ _ KN ?_;clear hK K
   (try dsimp only[Act.put])
   try simp only[mnA,mnB,mnC]
   refine jM (i:=0) (o:=⟨some 15,_,_,_,_,_⟩) (by kernel_rfl) (by kernel_rfl) rfl (fun K hK=>?_)
   go_simp
   have hal:=(brf x8_.heap.size x8_).alloc mle (.cells #[] 81);have BX2:=mh (BX1.trans (hal.mono BX1.size));have OV2:=mh ((qX.mk00 (S:=SSc) x8_ 81).mono BX1.size);have LX2:=mh (LX1.below hal);have GLT2:=mh (show gl<(x8_.alloc (.cells #[] 81)).heap.size∧gl≠x8_.heap.size∧w3.heap.size≤gl from by have h1:=GLT1.out;have h2:=hal.size;omega);have GE:=mh (show x8_.heap.size<(x8_.alloc (.cells #[] 81)).heap.size from by simp);clear hal;generalize x8_.heap.size=ge at *;generalize x8_.alloc (.cells #[] 81)=x80_ at *;have KN:=KS.out _ BX2.out;refine hK.out _ _ KN ?_;clear hK K
   (try dsimp only[Act.put])
   try simp only[mnA,mnB,mnC]
   refine jM (i:=3) (o:=⟨some 18,_,_,_,_,_⟩) (by kernel_rfl) (by kernel_rfl) rfl (fun K hK=>?_)
   refine qX.stepAp fY (by rfl) (.tmp 15) (.tmp 17) (by rfl) w3.heap.size (.slice (some ⟨ge,0,none⟩) 0 0) [] (⟨rn,rnm,⟨rto,rtn,rtm,rtp,rtl,rtc⟩,rbp,rbn,rbc,rle,rex,rne⟩::R1) (some ⟨sb,so,none⟩) sc sn LEN OV2 (RR.below BX2) (fun h=>by cases h) (by rfl) (by rfl) BX2.size (by have h1:=LEN.out;have h2:=LEN5.out;simp only[List.length_nil];omega) (by decide) ?_
   intro v5 w5 hO5 hap5;rw[List.nil_append]at hO5;have OV3:=mh hO5;have BX3:=mh (BX2.trans hap5.below);have LX3:=mh (LX2.blocks hap5.size fun a ea => .inr (by cases ea;exact hap5.far gl GLT2.1 (fun e=>GLT2.2.1 (by cases e;rfl))));have GLT3:=mh (show gl<w5.heap.size∧True∧w3.heap.size≤gl from⟨nll GLT2.1 hap5.size,trivial,GLT2.2.2⟩);have KN:=KS.out _ BX3.out;clear hO5 hap5;refine hK.out _ _ KN ?_;clear hK K
   (try dsimp only[Act.put])
   try simp only[mnA,mnB,mnC]
   refine jM (i:=9) (o:=⟨some 24,_,_,_,_,_⟩) (by kernel_rfl) (by kernel_rfl) rfl (fun K hK=>?_)
   refine qX.stepAp fY (by rfl) (.tmp 18) (.tmp 23) (by rfl) w3.heap.size v5 (⟨rn,rnm,⟨rto,rtn,rtm,rtp,rtl,rtc⟩,rbp,rbn,rbc,rle,rex,rne⟩::R1) [⟨rn,rnm,⟨rto,rtn,rtm,rtp,rtl,rtc⟩,rbp,rbn,rbc,rle,rex,rne⟩] (some ⟨gl,0,none⟩) 1 1 rfl OV3 LX3 (fun h=>by cases h) (by rfl) (by rfl) BX3.size (by have h1:=LEN.out;have h2:=LEN5.out;omega) (by decide) ?_
   intro v6 w6 hO6 hap6;have HB6:=mh (BX3.trans hap6.below);have KN2:=KS.out _ HB6.out;have k3f:=(HB6.frozen (p:=⟨g,0,none⟩) bl0).trans bf0;have kl:=nll bl0 HB6.size;obtain⟨p6,c6,rfl, -⟩:=hO6.cut rfl;obtain⟨n6,en6⟩:∃n6,(⟨rn,rnm,⟨rto,rtn,rtm,rtp,rtl,rtc⟩,rbp,rbn,rbc,rle,rex,rne⟩::R1 ++ [⟨rn,rnm,⟨rto,rtn,rtm,rtp,rtl,rtc⟩,rbp,rbn,rbc,rle,rex,rne⟩]:List RSx).length=n6:=⟨_,rfl⟩;rw[en6]at hO6 ⊢;have S4:=mh (S3.app HB6 HRL HSV hO6 s0 S1_ HS);clear hO6 hap6 en6;refine hK.out _ _ KN2 ?_;clear hK K
   (try dsimp only[Act.put])
   try simp only[mnA,mnB,mnC]
   refine tkK 10 25 KN2 ?_
   refine yJ (o:=⟨none,_,_,_,_,_⟩) (by kernel_rfl) rfl (fun K hK=>?_)
   go_simp
   refine hK.out _ _ ?_
   clear hK K
   (try dsimp only[Act.put])
   try simp only[mnA,mnB,mnC]
   refine wpAnyH_done (by kernel_rfl) ?_ _
   generalize w6.setCell ⟨g,0,none⟩ (.slice p6 n6 c6)=w7 at *;clear KN KN2 k3f kl hHeld b0 bf0 b1 bf1 b2 bf2 b3 bf3 b4 bf4 b5 bf5 b6 bf6 b7 bf7 b8 bf8 b9 bf9 bl0
   go_upto_region 19 with fail
   obtain⟨t0,t1,t2,t3,t4,t5,t6,t7,t8,t9⟩:=Blk.c10 S4.res;obtain⟨t0f,t1f,t2f,t3f,t4f,t5f,t6f,t7f,t8f,t9f⟩:=Blk.f10 S4.res;obtain⟨d0,d1,d2,d3,d4,d5,d6,d7,d8,d9⟩:=Blk.c10 S4.bl;have dl:=S4.bl.lt
   go_wp2_with fail
   exact vL S4.res rfl fun wf PB PK=>⟨by obtain⟨c0,c1,c2,c3,c4,c5,c6,c7,c8,c9⟩:=PB.c10;simp[results,yCells,Tryz.results10,go_sem,c0,c1,c2,c3,c4,c5,c6,c7,c8,c9],⟨d,⟨p6,n6,c6,tp,tn,tc,ldue,llast,lmille,gp,gn,gc,cp,ev,un,wd⟩,_,_,rfl,S4.fin PK⟩⟩
 obtain rfl:n=0:=by omega
 clear h1 h2 h3 h4 h5 h6 h7 h8 n0 n1
 go_upto_region 19 with (first|(go_at_call 43;(with_reducible refine cmo NX.out ?_);rintro e w3 ⟨rfl,ht3,hb3⟩;have S3:=mh (S1.next ht3 hb3);clear ht3 hb3;obtain⟨b0,b1,b2,b3,b4,b5,b6,b7,b8,b9⟩:=Blk.c10 S3.bl;obtain⟨bf0,bf1,bf2,bf3,bf4,bf5,bf6,bf7,bf8,bf9⟩:=Blk.f10 S3.bl;have bl0:=S3.bl.lt)|fail)
 clear b0 b1 b2 b3 b4 b5 b6 b7 b8 b9 bf0 bf1 bf2 bf3 bf4 bf5 bf6 bf7 bf8 bf9 bl0;obtain⟨t0,t1,t2,t3,t4,t5,t6,t7,t8,t9⟩:=Blk.c10 S3.res;obtain⟨t0f,t1f,t2f,t3f,t4f,t5f,t6f,t7f,t8f,t9f⟩:=Blk.f10 S3.res;obtain⟨d0,d1,d2,d3,d4,d5,d6,d7,d8,d9⟩:=Blk.c10 S3.bl;have dl:=S3.bl.lt
 go_wp2_with fail
 exact vL S3.res rfl fun wf PB PK=>⟨by obtain⟨c0,c1,c2,c3,c4,c5,c6,c7,c8,c9⟩:=PB.c10;simp[results,yCells,Tryz.results10,go_sem,c0,c1,c2,c3,c4,c5,c6,c7,c8,c9],⟨d,⟨sp,sn,sc,tp,tn,tc,ldue,llast,lmille,gp,gn,gc,cp,ev,un,wd⟩,_,_,rfl,S3.fin PK⟩⟩
end Go.Proofs.YtefcalgjnkigjaaGreat
namespace Go.Proofs.YtefcalgjnkigjaaGreat
open Go.RowKit Sc As
structure yV {ρ β:Type} (S:jJ ρ) (V:(Nat→Prop)→World→ρ→β→Prop) (T:TypeId) (B:Nat) (W:World) (v:Value) (R:List ρ) (K:List β):Prop where
 hl:R.length=K.length
 own:qX S W T B v R
 rows:∀k (h:k<R.length) (h' : k<K.length),V (Qx B v none) W R[k] K[k]
def wH {ρ β:Type} (V:(Nat→Prop)→World→ρ→β→Prop):Prop:=∀(Q Q' : Nat→Prop) (w w' : World) (r:ρ) (x:β),V Q w r x→w.heap.size≤w'.heap.size→(∀b,Q b→b<w.heap.size→w'.heap[b]?=w.heap[b]?∧Q' b)→V Q' w' r x
theorem LV.chgs:wH LV:=fun _ _ _ _ _ _ h hs hb=>h.change hs hb
theorem FV.chgs:wH FV:=fun _ _ _ _ _ _ h hs hb=>h.change hs hb
section
variable {ρ β:Type} {S:jJ ρ} {V:(Nat→Prop)→World→ρ→β→Prop} {T:TypeId} {B t G:Nat} {W w' w5 w6:World} {v v6:Value} {R:List ρ} {K:List β} {r:ρ} {x:β}
theorem yV.nil (S:jJ ρ)(V:(Nat→Prop)→World→ρ→β→Prop)(T:TypeId)(B:Nat)(W:World):yV S V T B W (.slice none 0 0) [] []:=⟨rfl,qX.nil _ _ _,fun k h=>by simp at h⟩
theorem yV.blocks (hV:wH V)(h:yV S V T B W v R K)(hs:W.heap.size≤w'.heap.size)(hb:∀b,B≤b→b<W.heap.size→w'.heap[b]?=W.heap[b]?):yV S V T B w' v R K :=
 ⟨h.hl,h.own.blocks fun g _ h3 h4=>hb g h3 h4,fun k a b=>hV _ _ _ _ _ _ (h.rows k a b) hs fun b q hl=>⟨hb b q.1 hl,q⟩⟩
theorem yV.below (hV:wH V)(h:yV S V T B W v R K)(hb:Below W.heap.size W w'):yV S V T B w' v R K:=h.blocks hV hb.size fun b _ hl=>hb.block b hl
theorem yV.but (hV:wH V)(h:yV S V T B W v R K)(hb:But t W w')(ht:t<B):yV S V T B w' v R K:=h.blocks hV hb.size fun b h1 hl=>hb.block b hl (by omega)
theorem yV.setLow {g i:Nat}(hV:wH V)(h:yV S V T B W v R K)(hg:g<B)(u:Value):yV S V T B (W.setCell ⟨g,i,none⟩ u) v R K :=
 h.blocks hV (by rw[jG];exact Nat.le_refl _) fun b h1 _=>qB _ (by omega) _ _
theorem yV.push (hV:wH V)(h:yV S V T B W v R K)(hB:B≤W.heap.size)(hb:But t W w5)(ht:t<B)(hG:w5.heap.size≤G)(hv:V (jP W.heap.size) w5 r x)
  (hO:qX S w6 T B v6 (R ++ [r])) (hap:jN w5 w6 B G v v6):yV S V T B w6 v6 (R ++ [r]) (K ++ [x]):=by
 have hsz:W.heap.size≤w6.heap.size:=Nat.le_trans hb.size hap.size;refine⟨by rw[lap,lap,h.hl];rfl,hO,fun k a b=>?_⟩
 by_cases hlt:k<R.length
 ·rw[List.getElem_append_left hlt,List.getElem_append_left (by rw[← h.hl];exact hlt)]
  refine hV _ _ _ _ _ _ (h.rows k hlt (by rw[← h.hl];exact hlt)) hsz fun b q hl=>?_
  have hl5:=nll hl hb.size;exact⟨(hap.far b hl5 q.2.1).trans (hb.block b hl (by have:=q.1;omega)),q.1,hap.apart hG hl5 q.2.1,fun e=>by cases e⟩
 ·have ek:k=R.length:=by rw[lap]at a;simp at a;omega
  subst ek;rw[List.getElem_append_right mle,List.getElem_append_right (by rw[h.hl];exact Nat.le_refl _)];simp only[Nat.sub_self,h.hl,List.getElem_cons_zero];refine hV _ _ _ _ _ _ hv hap.size fun b q hl=>?_
  have hn:v.ownBlock≠some b:=fun e=>by have:=(h.own.lt e).2;unfold jP at q;omega
  exact⟨hap.far b hl hn,by unfold jP at q;omega,hap.apart hG hl hn,fun e=>by cases e⟩
end
theorem yV.lines {B:Nat}{W:World}{v:Value}{R:List RL}{K:List LineF}(h:yV SL LV 89 B W v R K){n:Nat}(hn:K.length=n):∃p c,v = .slice p n c∧n≤c∧(p=none→c=0)∧wF (fun b=>B≤b) W p K:=by
 obtain⟨p,c,e,h1,h2,h3, -,h5⟩:=h.own.cut (h.hl.trans hn);exact⟨p,c,e,h3,fun e=>(h1 e).1,⟨R,h.hl,h5,fun k a b=>(h.rows k a b).change mle fun b q _=>⟨rfl,q.1⟩⟩,fun a ea => .inr (h2 a ea).2.2.1⟩
theorem yV.farms {B:Nat}{W:World}{v:Value}{R:List RF}{K:List FarmF}(h:yV SF FV 47 B W v R K){n:Nat}(hn:K.length=n):∃p c,v = .slice p n c∧n≤c∧(p=none→c=0)∧yF (fun b=>B≤b) W p K:=by
 obtain⟨p,c,e,h1,h2,h3, -,h5⟩:=h.own.cut (h.hl.trans hn);exact⟨p,c,e,h3,fun e=>(h1 e).1,⟨R,h.hl,h5,fun k a b=>(h.rows k a b).change mle fun b q _=>⟨rfl,q.1⟩⟩,fun a ea => .inr (h2 a ea).2.2.1⟩
structure FmOk (Y:YLaw) (f:FarmF):Prop where
 ok:vP Y f
 len:f.lines.length≤3
 decl:∀x∈f.lines,x.decl<120
 day:f.day<60
 pos:∀x∈f.lines,0≤x.sch
structure tD (Y:YLaw) (K:List LineF) (m:Nat):Prop where
 len:K.length≤m
 line:∀x∈K,vX Y x
 decl:∀x∈K,x.decl<120
 pos:∀x∈K,0≤x.sch
theorem tD.nil (Y:YLaw)(m:Nat):tD Y [] m:=⟨Nat.zero_le _,(fun x h=>by cases h),(fun x h=>by cases h),(fun x h=>by cases h)⟩
theorem tD.snoc {Y:YLaw}{K:List LineF}{m:Nat}{x:LineF}(h:tD Y K m)(hm:K.length<m)(hx:vX Y x)(hd:x.decl<120∧0≤x.sch):tD Y (K ++ [x]) m :=
 ⟨by rw[lap];exact hm,fun y hy=>(List.mem_append.1 hy).elim (h.line y) fun h=>by rw[List.mem_singleton.1 h];exact hx,fun y hy=>(List.mem_append.1 hy).elim (h.decl y) fun h=>(by rw[List.mem_singleton.1 h];exact hd.1),fun y hy=>(List.mem_append.1 hy).elim (h.pos y) fun h=>by rw[List.mem_singleton.1 h];exact hd.2⟩
theorem tD.farm {Y:YLaw}{K:List LineF}{fa day:Int}(h:tD Y K 3)(h0:1≤fa)(h1:fa≤60)(d0:0≤day)(d1:day<60):FmOk Y ⟨fa,day,K⟩:=by
 have hl:=h.len;refine⟨⟨h0,h1,d0,by show day≤_;omega,by show K.length≤20;omega,h.line,?_⟩,h.len,h.decl,d1,h.pos⟩;have hs:Sh.sum (K.map (·.decl))≤120*(K.map (·.decl)).length:=Sh.sum_le_len fun x hx=>by
  obtain⟨y,hy,rfl⟩:=List.mem_map.1 hx;have:=h.decl y hy;omega
 rw[List.length_map]at hs
 show jZ K≤268435456
 unfold jZ;omega
structure wN (Y:YLaw) (F:List FarmF) (fa:Int):Prop where
 fm:∀f∈F,FmOk Y f
 asc:∀i (h:i+1<F.length),F[i].farm<F[i+1].farm
 last:∀f∈F,f.farm≤fa
 f0:0≤fa
 f1:fa≤3*F.length
theorem wN.nil (Y:YLaw):wN Y [] 0:=⟨(fun f h=>by cases h),(fun i h=>by simp at h),(fun f h=>by cases h),Int.le_refl _,by simp⟩
theorem wN.snoc {Y:YLaw}{F:List FarmF}{fa:Int}{f:FarmF}(h:wN Y F fa)(hf:FmOk Y f)(h0:fa<f.farm)(h1:f.farm≤fa+3):wN Y (F ++ [f]) f.farm:=by
 have hf0:=h.f0;have hf1:=h.f1;refine⟨fun y hy=>(List.mem_append.1 hy).elim (h.fm y) fun h=>by rw[List.mem_singleton.1 h];exact hf,fun i hi=>?_,fun y hy=>(List.mem_append.1 hy).elim (fun hy=>by have:=h.last y hy;omega) fun h=>by rw[List.mem_singleton.1 h];exact Int.le_refl _,by omega,by rw[lap,List.length_singleton];omega⟩;rw[lap,List.length_singleton]at hi
 by_cases e:i+1=F.length
 ·rw[List.getElem_append_left (by omega),List.getElem_append_right (by omega)]
  have:=h.last _ (List.getElem_mem (show i<F.length by omega));simp only[e,Nat.sub_self,List.getElem_cons_zero];omega
 ·rw[List.getElem_append_left (by omega),List.getElem_append_left (by omega)]
  exact h.asc i (by omega)
theorem wN.fok {Y:YLaw}{F:List FarmF}{fa:Int}(h:wN Y F fa)(hy:YOk Y)(hl:F.length≤10):FOk Y F:=⟨hy,hl,fun f hf=>(h.fm f hf).ok,h.asc⟩
end Go.Proofs.YtefcalgjnkigjaaGreat
