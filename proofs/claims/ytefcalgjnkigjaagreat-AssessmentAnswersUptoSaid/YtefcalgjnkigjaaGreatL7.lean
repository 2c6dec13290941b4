/- Packed. -/
import Derived.Test.YtefcalgjnkigjaaGreatL6
set_option maxRecDepth 100000
set_option maxHeartbeats 8000000
open Go.Value renaming int → I
open Go.IntKind renaming i64 → O
namespace Go.Proofs.YtefcalgjnkigjaaGreat
open Go.RowKit Te
def vC (t:Nat) (l:List Int) (D:Nat) (w:World) (e:Ending) (w' : World):Prop :=
 ∃(row:RT) (tm:Tm) (d q:Nat),e = .returned (.agg #[I O row.op,I O row.num,I O row.more,.slice row.p row.n row.c])∧TV (jP w.heap.size) w' d row tm∧count tm<2 ^ (D+1)∧qV w' t l q∧But t w w'
theorem xZ {t:Nat}{l:List Int}{D q:Nat}{w W:World}(o n m:Int)(hb:But t w W)(ht:qV W t l q):vC t l D w (.returned (.agg #[I O o,I O n,I O m,.slice none 0 0])) W :=
 ⟨⟨o,n,m,none,0,0⟩,.mk o n m [],0,q,rfl,⟨⟨rfl,rfl,rfl,rfl,Nat.le_refl _,fun _=>rfl⟩,jE.nil _ _ _ _⟩,by rw[count,qS];have:=Nat.one_lt_two_pow (n:=D+1) (by omega);omega,ht,hb⟩
theorem bW {t:Nat}{l:List Int}{D q:Nat}{w w3:World}(hb:But t w w3)(ht:qV w3 t l q)(htw:t<w.heap.size)(o:Int)(R:List RT)(K:List Tm)(d n:Nat)(hlen:R.length=K.length)(hn:R.length=n)(hn2:n≤2)
  (hR:∀k (h:k<R.length) (h' : k<K.length),TV (jP (w.heap.size+1)) w3 d R[k] K[k]) (hz:w.heap.size<w3.heap.size) (hc:qS K+1<2 ^ (D+1)) (T:TypeId) :
  vC t l D w (.returned (.agg #[I O o,I O 0,I O 0,.slice (some ⟨w3.heap.size,0,none⟩) n n]))
   ((vE w3 w.heap.size (I O o) (I O 0) (I O 0) (.slice (some ⟨w3.heap.size,0,none⟩) n n)).alloc (.cells (ST.flat R).toArray T)):=by
 obtain⟨S,eS⟩:∃S:Value,S = .slice (some ⟨w3.heap.size,0,none⟩) n n:=⟨_,rfl⟩;rw[← eS];have hblk:=zYA w3 w.heap.size (I O o) (I O 0) (I O 0) S;have hbx:=xF hb (I O o) (I O 0) (I O 0) S;have hpb:=zT (W:=w3) (Nat.le_refl w.heap.size) (I O o) (I O 0) (I O 0) S;obtain⟨X,eX⟩:∃X,X=vE w3 w.heap.size (I O o) (I O 0) (I O 0) S:=⟨_,rfl⟩;rw[← eX]at hblk hbx hpb ⊢;have hA:Below X.heap.size X (X.alloc (.cells (ST.flat R).toArray T)):=(brf _ _).alloc mle _;have htX:=ht.belowB hpb htw;refine⟨⟨o,0,0,some ⟨w3.heap.size,0,none⟩,n,n⟩,.mk o 0 0 K,d+1,q,by rw[eS],⟨⟨rfl,rfl,rfl,by show n=K.length;omega,Nat.le_refl _,fun e=>by cases e⟩,R,hlen,?_,fun a e => .inr (by cases e;show w.heap.size≤w3.heap.size;omega),fun k a b=>?_⟩,by rw[count];omega,htX.below hA,hbx.stp (hA.mono hbx.size)⟩
 ·have:=qD.lit (S:=ST) X T R (by unfold maxLen;omega)
  rw[hblk.1]at this;exact this
 ·have h1:TV (jP w.heap.size) X d R[k] K[k]:=(hR k a b).change (by rw[hblk.1];exact Nat.le_refl _) fun g hq _=>⟨hblk.2 g (by unfold jP at hq;omega),by unfold jP at *;omega⟩
  exact⟨h1.is,h1.at_.below hA⟩
theorem zM (w:World)(g i:Nat)(u:Value){B:Nat}(h:B≤g):Below B w (w.setCell ⟨g,i,none⟩ u):=(brf _ _).setCell h _
theorem TB.new (w:World)(x0 x1 x2 x3:Value)(T:TypeId):TB w.heap.size (w.alloc (.cells #[x0,x1,x2,x3] T)) x0 x1 x2 x3:=by
 have f:∀i,(w.alloc (.cells #[x0,x1,x2,x3] T)).frozen? ⟨w.heap.size,i,none⟩=false:=fun i=>by
  simp only[World.frozen?,World.alloc_heap_new];simp
 exact⟨cwn _ _ _ 0,cwn _ _ _ 1,cwn _ _ _ 2,cwn _ _ _ 3,f 0,f 1,f 2,f 3,by simp⟩
theorem TB.but {b t:Nat}{W W' : World}{x0 x1 x2 x3:Value}(h:TB b W x0 x1 x2 x3)(hb:But t W W')(hne:b≠t):TB b W' x0 x1 x2 x3:=h.blk hb.size (hb.block b h.lt hne)
theorem wA (t:Nat)(l:List Int)(D:Nat)(hD:D≤2)(IH0:∀D', D=D' + 1→∀q W,qV W t l q→Calls Tryz.prog 118 #[.pointer (some ⟨t,0,none⟩),I O (D' : Int)] W (vC t l D' W))(q0:Nat)(w:World)(h:qV w t l q0) :
  Calls Tryz.prog 118 #[.pointer (some ⟨t,0,none⟩),I O (D:Int)] w (vC t l D w):=by
 have htw:=h.lt;have hA:Below w.heap.size w (w.alloc (.cells #[I O 0,I O 0,I O 0,.slice none 0 0] 76)):=(brf _ _).alloc mle _;have HT0:=mh (h.below hA);have HB0:=mh (But.of_below (t:=t) hA);have TB0:=mh (TB.new w (I O 0) (I O 0) (I O 0) (.slice none 0 0) 76);clear h hA;have IHH:=mh IH0;clear IH0
 go_enter Tryz.func118,Tryz.ntmps118
 go_upto_region 1 with fail
 generalize w.alloc (.cells #[I O 0,I O 0,I O 0,.slice none 0 0] 76)=w0 at *
 go_cut [12] (fun s W=>∃(z:Bool) (q:Nat),s = .bool z∧(z=true→0<D)∧qV W t l q∧But t w W∧TB w.heap.size W (I O 0) (I O 0) (I O 0) (.slice none 0 0))
 case first =>
  rcases Nat.eq_zero_or_pos D with hz|hz
  ·subst hz
   rw[show((0:Nat):Int)=0 from rfl]
   go_wp2_with fail
   go_meet
   exact⟨false,q0,rfl,fun e=>(by cases e),HT0.out,HB0.out,TB0.out⟩
  ·obtain⟨z,ez⟩:∃z,(qN l q0 2==2 - 1)=z:=⟨_,rfl⟩
   have ON:=mh (ez▸xE t l q0 2 w0 HT0 (by omega) (by omega));have hi0:(0:Int)<(D:Int):=by omega
   have HZ:=mh hz;clear ez hz
   go_wp2_with (go_at_call 44;(with_reducible refine cmo ON.out ?_);rintro e wa ⟨rfl,hta,hba⟩;have HTa:=mh hta;have HBa:=mh (HB0.trans hba);have TBa:=mh (TB0.but hba (Nat.ne_of_gt htw));clear hta hba)
   go_meet
   exact⟨z,_,rfl,fun _=>HZ.out,HTa.out,HBa.out,TBa.out⟩
 case rest =>
  obtain⟨z,qa,rfl,hz,hta,hba,htb⟩:=hcut;have HTa:=mh hta;have HBa:=mh hba;have TBa:=mh htb;clear hta hba htb HT0 HB0 TB0;obtain⟨wa,rfl⟩:∃W:World,W=wc:=⟨_,rfl⟩
  cases z
  ·obtain⟨o,eo⟩:∃o,1+qN l qa 8=o:=⟨_,rfl⟩
   have hob:=qG l qa (n:=8) (by omega)
   have RG:=mh (show ∀W,qV W t l qa→Calls Tryz.prog 45 #[.pointer (some ⟨t,0,none⟩),I O 1,I O 8] W (fun e w' => e = .returned (I O o)∧qV w' t l (qM l qa)∧But t W w') from fun W hW=>by
    have:=zU t l qa 1 8 W hW (by omega) (by omega) (by omega);rw[show(8:Int) - 1+1=8 from rfl,eo]at this
    exact this)
   obtain⟨q1,eq1⟩:∃x,qM l qa=x:=⟨_,rfl⟩;rw[eq1]at RG;have hoc:o=1∨o=2∨o=3∨o=4∨o=5∨o=6∨o=7∨o=8:=by omega
   clear eo eq1 hob
   go_wp2_with fail
   (with_reducible refine cmo (RG.out _ HTa.out) ?_);rintro e w1 ⟨rfl,ht1,hb1⟩;have HB1:=mh (HBa.trans hb1);have TB1:=mh (TBa.but hb1 (Nat.ne_of_gt htw));have A1:=mh ((brf w1.heap.size w1).alloc mle (.cells #[I O o,I O 0,I O 0,.slice none 0 0] 76));have HT1:=mh (ht1.below A1);have HS1:=mh (nll TBa.lt hb1.size);clear ht1 hb1
   go_upto_region 10 with fail
   rcases hoc with rfl|rfl|rfl|rfl|rfl|rfl|rfl|rfl
   ·obtain⟨z0,z1,z2,z3,u0,u1,u2,u3, -⟩:=TB1.below A1.out
    go_wp2_with fail
    have FIN:=mh (xZ (D:=D) (w:=w) 1 0 0 (xF (HB1.nxt A1) (I O 1) (I O (0)) (I O (0)) (.slice none 0 0)) ((HT1).belowB (zT (Nat.le_refl w.heap.size) (I O 1) (I O (0)) (I O (0)) (.slice none 0 0)) htw));unfold vE at FIN;exact bodyPost_ret (v := .agg #[I O 1,I O (0),I O (0),.slice none 0 0]) (by simp[results,Tryz.results118,go_sem,z0,z1,z2,z3]) rfl FIN.out
   ·go_wp2_with fail
    (with_reducible refine cmo (qF t l q1 4 _ HT1.out (by decide)) ?_);rintro e w2 ⟨rfl,ht2,hb2⟩;have hgv:=qG l q1 (n:=4) (by decide);obtain⟨gv,egv⟩:∃x,qN l q1 4=x:=⟨_,rfl⟩;rw[egv];rw[egv]at hgv;obtain⟨hg0,hg1⟩:=hgv;clear egv;have HBX:=mh ((HB1.nxt A1).trans hb2);have HTX:=mh ht2;obtain⟨x0,x1,x2,x3,y0,y1,y2,y3, -⟩:=(TB.new w1 (I O 2) (I O 0) (I O 0) (.slice none 0 0) 76).but hb2 (by have:=HS1.out;omega);obtain⟨z0,z1,z2,z3,u0,u1,u2,u3, -⟩:=(TB1.below A1).but hb2 (Nat.ne_of_gt htw);have hbz:w1.heap.size≠w.heap.size:=by have:=HS1.out;omega
    have hzb:w.heap.size≠w1.heap.size:=Ne.symm hbz;have HLE:=mh (Nat.le_of_lt HS1);clear ht2 hb2
    go_wp2
    have FIN:=mh (xZ (D:=D) (w:=w) 2 (gv) 0 (xF (HBX.stpB (zM w2 w1.heap.size 1 (I O (gv)) HLE) mle) (I O 2) (I O (gv)) (I O (0)) (.slice none 0 0)) ((HTX.belowB (zM w2 w1.heap.size 1 (I O (gv)) HLE) htw).belowB (zT (Nat.le_refl w.heap.size) (I O 2) (I O (gv)) (I O (0)) (.slice none 0 0)) htw));unfold vE at FIN;exact bodyPost_ret (v := .agg #[I O 2,I O (gv),I O (0),.slice none 0 0]) (by simp[results,Tryz.results118,go_sem,z0,z1,z2,z3]) rfl FIN.out
   ·go_wp2_with fail
    (with_reducible refine cmo (qF t l q1 4 _ HT1.out (by decide)) ?_);rintro e w2 ⟨rfl,ht2,hb2⟩;have hgv:=qG l q1 (n:=4) (by decide);obtain⟨gv,egv⟩:∃x,qN l q1 4=x:=⟨_,rfl⟩;rw[egv];rw[egv]at hgv;obtain⟨hg0,hg1⟩:=hgv;clear egv;have HBX:=mh ((HB1.nxt A1).trans hb2);have HTX:=mh ht2;obtain⟨x0,x1,x2,x3,y0,y1,y2,y3, -⟩:=(TB.new w1 (I O 3) (I O 0) (I O 0) (.slice none 0 0) 76).but hb2 (by have:=HS1.out;omega);obtain⟨z0,z1,z2,z3,u0,u1,u2,u3, -⟩:=(TB1.below A1).but hb2 (Nat.ne_of_gt htw);have hbz:w1.heap.size≠w.heap.size:=by have:=HS1.out;omega
    have hzb:w.heap.size≠w1.heap.size:=Ne.symm hbz;have HLE:=mh (Nat.le_of_lt HS1);clear ht2 hb2
    go_wp2
    have FIN:=mh (xZ (D:=D) (w:=w) 3 (gv) 0 (xF (HBX.stpB (zM w2 w1.heap.size 1 (I O (gv)) HLE) mle) (I O 3) (I O (gv)) (I O (0)) (.slice none 0 0)) ((HTX.belowB (zM w2 w1.heap.size 1 (I O (gv)) HLE) htw).belowB (zT (Nat.le_refl w.heap.size) (I O 3) (I O (gv)) (I O (0)) (.slice none 0 0)) htw));unfold vE at FIN;exact bodyPost_ret (v := .agg #[I O 3,I O (gv),I O (0),.slice none 0 0]) (by simp[results,Tryz.results118,go_sem,z0,z1,z2,z3]) rfl FIN.out
   ·go_wp2_with fail
    (with_reducible refine cmo (qF t l q1 5 _ HT1.out (by decide)) ?_);rintro e w2 ⟨rfl,ht2,hb2⟩;have hgv:=qG l q1 (n:=5) (by decide);obtain⟨gv,egv⟩:∃x,qN l q1 5=x:=⟨_,rfl⟩;rw[egv];rw[egv]at hgv;obtain⟨hg0,hg1⟩:=hgv;clear egv;have HBX:=mh ((HB1.nxt A1).trans hb2);have HTX:=mh ht2;obtain⟨x0,x1,x2,x3,y0,y1,y2,y3, -⟩:=(TB.new w1 (I O 4) (I O 0) (I O 0) (.slice none 0 0) 76).but hb2 (by have:=HS1.out;omega);obtain⟨z0,z1,z2,z3,u0,u1,u2,u3, -⟩:=(TB1.below A1).but hb2 (Nat.ne_of_gt htw);have hbz:w1.heap.size≠w.heap.size:=by have:=HS1.out;omega
    have hzb:w.heap.size≠w1.heap.size:=Ne.symm hbz;have HLE:=mh (Nat.le_of_lt HS1);clear ht2 hb2
    go_wp2
    have FIN:=mh (xZ (D:=D) (w:=w) 4 (wrap64 (2 ^ gv.toNat)) 0 (xF (HBX.stpB (zM w2 w1.heap.size 1 (I O (wrap64 (2 ^ gv.toNat))) HLE) mle) (I O 4) (I O (wrap64 (2 ^ gv.toNat))) (I O (0)) (.slice none 0 0)) ((HTX.belowB (zM w2 w1.heap.size 1 (I O (wrap64 (2 ^ gv.toNat))) HLE) htw).belowB (zT (Nat.le_refl w.heap.size) (I O 4) (I O (wrap64 (2 ^ gv.toNat))) (I O (0)) (.slice none 0 0)) htw));unfold vE at FIN;exact bodyPost_ret (v := .agg #[I O 4,I O (wrap64 (2 ^ gv.toNat)),I O (0),.slice none 0 0]) (by simp[results,Tryz.results118,go_sem,z0,z1,z2,z3]) rfl FIN.out
   ·go_wp2_with fail
    (with_reducible refine cmo (qF t l q1 16 _ HT1.out (by decide)) ?_);rintro e w2 ⟨rfl,ht2,hb2⟩;have hgv:=qG l q1 (n:=16) (by decide);obtain⟨gv,egv⟩:∃x,qN l q1 16=x:=⟨_,rfl⟩;rw[egv];rw[egv]at hgv;obtain⟨hg0,hg1⟩:=hgv;clear egv;have HBX:=mh ((HB1.nxt A1).trans hb2);have HTX:=mh ht2;obtain⟨x0,x1,x2,x3,y0,y1,y2,y3, -⟩:=(TB.new w1 (I O 5) (I O 0) (I O 0) (.slice none 0 0) 76).but hb2 (by have:=HS1.out;omega);obtain⟨z0,z1,z2,z3,u0,u1,u2,u3, -⟩:=(TB1.below A1).but hb2 (Nat.ne_of_gt htw);have hbz:w1.heap.size≠w.heap.size:=by have:=HS1.out;omega
    have hzb:w.heap.size≠w1.heap.size:=Ne.symm hbz;have HLE:=mh (Nat.le_of_lt HS1);clear ht2 hb2
    go_wp2
    have FIN:=mh (xZ (D:=D) (w:=w) 5 (gv) 0 (xF (HBX.stpB (zM w2 w1.heap.size 1 (I O (gv)) HLE) mle) (I O 5) (I O (gv)) (I O (0)) (.slice none 0 0)) ((HTX.belowB (zM w2 w1.heap.size 1 (I O (gv)) HLE) htw).belowB (zT (Nat.le_refl w.heap.size) (I O 5) (I O (gv)) (I O (0)) (.slice none 0 0)) htw));unfold vE at FIN;exact bodyPost_ret (v := .agg #[I O 5,I O (gv),I O (0),.slice none 0 0]) (by simp[results,Tryz.results118,go_sem,z0,z1,z2,z3]) rfl FIN.out
   ·go_wp2_with fail
    (with_reducible refine cmo (zU t l q1 2 3 _ HT1.out (by decide) (by decide) (by decide)) ?_);rintro e w2 ⟨rfl,ht2,hb2⟩;obtain⟨gv,egv⟩:∃x,2+qN l q1 (3 - 2+1)=x:=⟨_,rfl⟩;rw[egv];clear egv;have HBX:=mh ((HB1.nxt A1).trans hb2);have HTX:=mh ht2;obtain⟨x0,x1,x2,x3,y0,y1,y2,y3, -⟩:=(TB.new w1 (I O 6) (I O 0) (I O 0) (.slice none 0 0) 76).but hb2 (by have:=HS1.out;omega);obtain⟨z0,z1,z2,z3,u0,u1,u2,u3, -⟩:=(TB1.below A1).but hb2 (Nat.ne_of_gt htw);have hbz:w1.heap.size≠w.heap.size:=by have:=HS1.out;omega
    have hzb:w.heap.size≠w1.heap.size:=Ne.symm hbz;have HLE:=mh (Nat.le_of_lt HS1);clear ht2 hb2
    go_wp2
    have FIN:=mh (xZ (D:=D) (w:=w) 6 (gv) 0 (xF (HBX.stpB (zM w2 w1.heap.size 1 (I O (gv)) HLE) mle) (I O 6) (I O (gv)) (I O (0)) (.slice none 0 0)) ((HTX.belowB (zM w2 w1.heap.size 1 (I O (gv)) HLE) htw).belowB (zT (Nat.le_refl w.heap.size) (I O 6) (I O (gv)) (I O (0)) (.slice none 0 0)) htw));unfold vE at FIN;exact bodyPost_ret (v := .agg #[I O 6,I O (gv),I O (0),.slice none 0 0]) (by simp[results,Tryz.results118,go_sem,z0,z1,z2,z3]) rfl FIN.out
   ·go_wp2_with fail
    obtain⟨ga,ega⟩:∃x,1+qN l q1 (2 - 1+1)=x:=⟨_,rfl⟩;obtain⟨q2,eq2⟩:∃x,qM l q1=x:=⟨_,rfl⟩;have R2:=mh (fun (W:World) (hW:qV W t l q1)=>eq2▸ega▸zU t l q1 1 2 W hW (by omega) (by omega) (by omega));have hgv:=qG l q2 (n:=5) (by decide);obtain⟨gv,egv⟩:∃x,qN l q2 5=x:=⟨_,rfl⟩;rw[egv]at hgv;obtain⟨hg0,hg1⟩:=hgv;have R3:=mh (fun (W:World) (hW:qV W t l q2)=>egv▸qF t l q2 5 W hW (by omega));clear ega eq2 egv;have hbz:w1.heap.size≠w.heap.size:=by have:=HS1.out;omega
    have hzb:w.heap.size≠w1.heap.size:=Ne.symm hbz;have HLE:=mh (Nat.le_of_lt HS1);have htw1:w1.heap.size≠t:=by have:=HS1.out;omega
    have HT1d:=mh (HT1.below (brf _ _).drew);obtain⟨WX,eWX⟩:∃W:World,(w1.alloc (.cells #[I O 7,I O 0,I O 0,.slice none 0 0] 76)).drew=W:=⟨_,rfl⟩;have TX:=mh (show TB w1.heap.size WX (I O 7) (I O 0) (I O 0) (.slice none 0 0) from eWX▸(TB.new w1 (I O 7) (I O 0) (I O 0) (.slice none 0 0) 76).below (brf _ _).drew);have TZ:=mh (show TB w.heap.size WX (I O 0) (I O 0) (I O 0) (.slice none 0 0) from eWX▸(TB1.below A1).below (brf _ _).drew);have BX:=mh (show But t w WX from eWX▸(HB1.nxt A1).drew);rw[eWX]at HT1d
    go_region_with (first|(go_at_call 45;refine cmo (R2 _ HT1d) ?_;rintro e w2 ⟨rfl,ht2,hb2⟩;have TX2:=mh (TX.but hb2 htw1);have TZ2:=mh (TZ.but hb2 (Nat.ne_of_gt htw));have BX2:=mh (BX.trans hb2);have HT2:=mh ht2;clear ht2 hb2)|(go_at_call 43;refine cmo (R3 _ HT2) ?_;rintro e w3 ⟨rfl,ht3,hb3⟩;have BX3:=mh (BX2.trans hb3);obtain⟨x0,x1,x2,x3,y0,y1,y2,y3, -⟩:=TX2.but hb3 htw1;obtain⟨z0,z1,z2,z3,u0,u1,u2,u3, -⟩:=TZ2.but hb3 (Nat.ne_of_gt htw);have HT3:=mh ht3;clear ht3 hb3))
    go_wp2
    have HQ:=mh ((BX3.stpB (zM w3 w1.heap.size 1 (I O ga) HLE) mle).stpB (zM (w3.setCell ⟨w1.heap.size,1,none⟩ (I O ga)) w1.heap.size 2 (I O (wrap64 (2 ^ gv.toNat))) HLE) mle);have HQT:=mh ((HT3.belowB (zM w3 w1.heap.size 1 (I O ga) HLE) htw).belowB (zM (w3.setCell ⟨w1.heap.size,1,none⟩ (I O ga)) w1.heap.size 2 (I O (wrap64 (2 ^ gv.toNat))) HLE) htw);have FIN:=mh (xZ (D:=D) (w:=w) 7 (ga) (wrap64 (2 ^ gv.toNat)) (xF (HQ) (I O 7) (I O (ga)) (I O (wrap64 (2 ^ gv.toNat))) (.slice none 0 0)) ((HQT).belowB (zT (Nat.le_refl w.heap.size) (I O 7) (I O (ga)) (I O (wrap64 (2 ^ gv.toNat))) (.slice none 0 0)) htw));unfold vE at FIN;exact bodyPost_ret (v := .agg #[I O 7,I O (ga),I O (wrap64 (2 ^ gv.toNat)),.slice none 0 0]) (by simp[results,Tryz.results118,go_sem,z0,z1,z2,z3]) rfl FIN.out
   ·go_wp2_with fail
    (with_reducible refine cmo (zU t l q1 1 3 _ HT1.out (by decide) (by decide) (by decide)) ?_);rintro e w2 ⟨rfl,ht2,hb2⟩;obtain⟨gv,egv⟩:∃x,1+qN l q1 (3 - 1+1)=x:=⟨_,rfl⟩;rw[egv];clear egv;have HBX:=mh ((HB1.nxt A1).trans hb2);have HTX:=mh ht2;obtain⟨x0,x1,x2,x3,y0,y1,y2,y3, -⟩:=(TB.new w1 (I O 8) (I O 0) (I O 0) (.slice none 0 0) 76).but hb2 (by have:=HS1.out;omega);obtain⟨z0,z1,z2,z3,u0,u1,u2,u3, -⟩:=(TB1.below A1).but hb2 (Nat.ne_of_gt htw);have hbz:w1.heap.size≠w.heap.size:=by have:=HS1.out;omega
    have hzb:w.heap.size≠w1.heap.size:=Ne.symm hbz;have HLE:=mh (Nat.le_of_lt HS1);clear ht2 hb2
    go_wp2
    have FIN:=mh (xZ (D:=D) (w:=w) 8 (gv) 0 (xF (HBX.stpB (zM w2 w1.heap.size 1 (I O (gv)) HLE) mle) (I O 8) (I O (gv)) (I O (0)) (.slice none 0 0)) ((HTX.belowB (zM w2 w1.heap.size 1 (I O (gv)) HLE) htw).belowB (zT (Nat.le_refl w.heap.size) (I O 8) (I O (gv)) (I O (0)) (.slice none 0 0)) htw));unfold vE at FIN;exact bodyPost_ret (v := .agg #[I O 8,I O (gv),I O (0),.slice none 0 0]) (by simp[results,Tryz.results118,go_sem,z0,z1,z2,z3]) rfl FIN.out
      
  ·obtain⟨D', rfl⟩:∃D', D=D' + 1:=⟨D - 1,by have:=hz rfl;omega⟩
   obtain⟨i,ei⟩:∃i:Int,((D' + 1:Nat):Int)=i:=⟨_,rfl⟩;have hi3:i≤2:=by omega
   have hi0:0<i:=by omega
   have hid:(D' : Int)=i - 1:=by omega
   have IH:=mh (show ∀q W,qV W t l q→Calls Tryz.prog 118 #[.pointer (some ⟨t,0,none⟩),I O (i - 1)] W (vC t l D' W) from fun q W hW=>hid▸IHH.out D' rfl q W hW);rw[ei];obtain⟨g,eg⟩:∃g,qN l qa 3=g:=⟨_,rfl⟩;have hg:=qG l qa (n:=3) (by omega);rw[eg]at hg;have NX:=mh (eg▸qF t l qa 3 wa HTa (by omega));have hgc:g=0∨g=1∨g=2:=by omega
   clear eg hg ei hid hz IHH
   go_wp2_with fail
   (with_reducible refine cmo NX.out ?_);rintro e wb ⟨rfl,htb,hbb⟩;have HTb:=mh htb;have HBb:=mh (HBa.trans hbb);have TBb:=mh (TBa.but hbb (Nat.ne_of_gt htw));clear htb hbb NX
   rcases hgc with rfl|rfl|rfl
   ·go_wp2_with fail
    (with_reducible refine cmo (IH.out _ _ HTb.out) ?_);rintro e wc ⟨r1,k1,d1,q1,rfl,hv1,hc1,ht1,hb1⟩;have HTc:=mh ht1;have HBc:=mh (HBb.trans hb1);have TBc:=mh (TBb.but hb1 (Nat.ne_of_gt htw));have V1:=mh (show TV (jP (w.heap.size+1)) wc d1 r1 k1 from hv1.change mle fun b hq _=>⟨rfl,by have:=TBb.lt;unfold jP at *;omega⟩);clear hv1 ht1 hb1;obtain⟨z0,z1,z2,z3,u0,u1,u2,u3,hlt⟩:=TBc.out;have hct:qS [k1]+1<2 ^ (D' + 1+1):=by
     have e1:qS [k1]=count k1:=by rw[qS,qS,Nat.add_zero]
     have e2:2 ^ (D' + 1+1)=2*2 ^ (D' + 1):=by rw[Nat.pow_succ,Nat.mul_comm]
     rw[e1,e2];omega
    have FIN:=mh (bW (D:=D' + 1) HBc HTc htw 11 [r1] [k1] d1 1 rfl rfl (by omega) (fun k a b=>by
     match k,a with
     | 0,_=>exact V1) hlt hct 76)
    unfold vE at FIN;have TF:=(TBc.res (I O 11) (I O 0) (I O 0) (.slice (some ⟨wc.heap.size,0,none⟩) 1 1)).below (qK mle (brf _ _) (.cells #[I O r1.op,I O r1.num,I O r1.more,.slice r1.p r1.n r1.c] 76));unfold vE at TF;have TF:=mh TF
    go_wp2
    obtain⟨k0,k1,k2,k3, -, -, -, -, -⟩:=TF.out;exact bodyPost_ret (v := .agg #[I O 11,I O 0,I O 0,.slice (some ⟨wc.heap.size,0,none⟩) 1 1]) (by simp[results,Tryz.results118,go_sem,k0,k1,k2,k3]) rfl FIN.out
   ·go_wp2_with fail
    (with_reducible refine cmo (IH.out _ _ HTb.out) ?_);rintro e wc ⟨r1,k1,d1,q1,rfl,hv1,hc1,ht1,hb1⟩;have HTc:=mh ht1;have HBc:=mh (HBb.trans hb1);have TBc:=mh (TBb.but hb1 (Nat.ne_of_gt htw));have V1:=mh (show TV (jP (w.heap.size+1)) wc d1 r1 k1 from hv1.change mle fun b hq _=>⟨rfl,by have:=TBb.lt;unfold jP at *;omega⟩);clear hv1 ht1 hb1
    go_wp2_with fail
    (with_reducible refine cmo (IH.out _ _ HTc.out) ?_);rintro e wd ⟨r2,k2,d2,q2,rfl,hv2,hc2,ht2,hb2⟩;have HBd:=mh (HBc.trans hb2);obtain⟨z0,z1,z2,z3,u0,u1,u2,u3,hlt⟩:=TBc.but hb2 (Nat.ne_of_gt htw);have hct:qS [k1,k2]+1<2 ^ (D' + 1+1):=by
     have e1:qS [k1,k2]=count k1+count k2:=by rw[qS,qS,qS,Nat.add_zero]
     have e2:2 ^ (D' + 1+1)=2*2 ^ (D' + 1):=by rw[Nat.pow_succ,Nat.mul_comm]
     rw[e1,e2];omega
    have FIN:=mh (bW (D:=D' + 1) HBd ht2 htw 9 [r1,r2] [k1,k2] (max d1 d2) 2 rfl rfl (by omega) (fun k a b=>by
     match k,a with
     | 0,_=>exact(V1.change hb2.size fun b hq hl=>⟨hb2.block b hl (by unfold jP at hq;omega),hq⟩).deep (Nat.le_max_left _ _)
     | 1,_=>exact(hv2.change mle fun b hq _=>⟨rfl,by have:=TBc.lt;unfold jP at *;omega⟩).deep (Nat.le_max_right _ _)) hlt hct 76)
    unfold vE at FIN;clear hv2 ht2;have TF:=((TBc.but hb2 (Nat.ne_of_gt htw)).res (I O 9) (I O 0) (I O 0) (.slice (some ⟨wd.heap.size,0,none⟩) 2 2)).below (qK mle (brf _ _) (.cells #[I O r1.op,I O r1.num,I O r1.more,.slice r1.p r1.n r1.c,I O r2.op,I O r2.num,I O r2.more,.slice r2.p r2.n r2.c] 76));unfold vE at TF;have TF:=mh TF;clear hb2
    go_wp2
    obtain⟨k0,k1,k2,k3, -, -, -, -, -⟩:=TF.out;exact bodyPost_ret (v := .agg #[I O 9,I O 0,I O 0,.slice (some ⟨wd.heap.size,0,none⟩) 2 2]) (by simp[results,Tryz.results118,go_sem,k0,k1,k2,k3]) rfl FIN.out
   ·go_wp2_with fail
    (with_reducible refine cmo (IH.out _ _ HTb.out) ?_);rintro e wc ⟨r1,k1,d1,q1,rfl,hv1,hc1,ht1,hb1⟩;have HTc:=mh ht1;have HBc:=mh (HBb.trans hb1);have TBc:=mh (TBb.but hb1 (Nat.ne_of_gt htw));have V1:=mh (show TV (jP (w.heap.size+1)) wc d1 r1 k1 from hv1.change mle fun b hq _=>⟨rfl,by have:=TBb.lt;unfold jP at *;omega⟩);clear hv1 ht1 hb1
    go_wp2_with fail
    (with_reducible refine cmo (IH.out _ _ HTc.out) ?_);rintro e wd ⟨r2,k2,d2,q2,rfl,hv2,hc2,ht2,hb2⟩;have HBd:=mh (HBc.trans hb2);obtain⟨z0,z1,z2,z3,u0,u1,u2,u3,hlt⟩:=TBc.but hb2 (Nat.ne_of_gt htw);have hct:qS [k1,k2]+1<2 ^ (D' + 1+1):=by
     have e1:qS [k1,k2]=count k1+count k2:=by rw[qS,qS,qS,Nat.add_zero]
     have e2:2 ^ (D' + 1+1)=2*2 ^ (D' + 1):=by rw[Nat.pow_succ,Nat.mul_comm]
     rw[e1,e2];omega
    have FIN:=mh (bW (D:=D' + 1) HBd ht2 htw 10 [r1,r2] [k1,k2] (max d1 d2) 2 rfl rfl (by omega) (fun k a b=>by
     match k,a with
     | 0,_=>exact(V1.change hb2.size fun b hq hl=>⟨hb2.block b hl (by unfold jP at hq;omega),hq⟩).deep (Nat.le_max_left _ _)
     | 1,_=>exact(hv2.change mle fun b hq _=>⟨rfl,by have:=TBc.lt;unfold jP at *;omega⟩).deep (Nat.le_max_right _ _)) hlt hct 76)
    unfold vE at FIN;clear hv2 ht2;have TF:=((TBc.but hb2 (Nat.ne_of_gt htw)).res (I O 10) (I O 0) (I O 0) (.slice (some ⟨wd.heap.size,0,none⟩) 2 2)).below (qK mle (brf _ _) (.cells #[I O r1.op,I O r1.num,I O r1.more,.slice r1.p r1.n r1.c,I O r2.op,I O r2.num,I O r2.more,.slice r2.p r2.n r2.c] 76));unfold vE at TF;have TF:=mh TF;clear hb2
    go_wp2
    obtain⟨k0,k1,k2,k3, -, -, -, -, -⟩:=TF.out;exact bodyPost_ret (v := .agg #[I O 10,I O 0,I O 0,.slice (some ⟨wd.heap.size,0,none⟩) 2 2]) (by simp[results,Tryz.results118,go_sem,k0,k1,k2,k3]) rfl FIN.out
      
theorem dU (t:Nat)(l:List Int):∀(D:Nat) (_:D≤2) (q0:Nat) (w:World) (_:qV w t l q0),
  Calls Tryz.prog 118 #[.pointer (some ⟨t,0,none⟩),I O (D:Int)] w (vC t l D w)
 | 0,hD,q0,w,h=>wA t l 0 hD (fun D' e=>by omega) q0 w h
 | D+1,hD,q0,w,h=>wA t l (D+1) hD (fun D' e q W hW=>(show D=D' by omega)▸dU t l D (by omega) q W hW) q0 w h
end Go.Proofs.YtefcalgjnkigjaaGreat
