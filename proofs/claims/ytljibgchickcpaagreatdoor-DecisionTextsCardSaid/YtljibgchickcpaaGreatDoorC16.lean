/- Packed. -/
import Derived.Test.YtljibgchickcpaaGreatDoorC12
set_option maxRecDepth 100000
set_option maxHeartbeats 4000000
open Go.Value renaming int → I
open Go.IntKind renaming i64 → O
namespace Go.Proofs.YtljibgchickcpaaGreatDoor
open Go.RowKit
theorem Own.copyOf {P:Program}{T TS:TypeId}{i0:TypeInfo}(hi:P.info? T=some i0)(hz0:i0.zero=some (I O 0))(hz1:i0.size=1)(hz2:i0.bytes=8)(ht:P.underlying TS=some (.slice T)){w:World}{ops:Array Oper}{rest:List Oper}{o:Oper}{a:Act}{Q:Exit→Act→World→Prop}(hgd:o.guard=none)(s x:Operand)
  (ho:o.op = .call { callee := .builtin .append,args:=#[s,x],argTypes:=#[TS,TS] }) (xs:List Int) (p:Option Addr) (cap:Nat) (hI:Ints w p xs) (hs:a.eval s = .slice none 0 0)
  (hx:a.eval x = .slice p xs.length cap) (hn:xs.length<1099511627776)
  (h:∀v' w', Own w' T w.heap.size v' xs→Below w.heap.size w w' → wpList P ops Q rest (a.put o.dst v') w'):wpList P ops Q (o::rest) a w:=by
 cases p with
 | none =>
   have hxs:xs = []:=by
    rcases hI.2 with h|⟨b,off,hp,_⟩
    ·exact h
    ·cases hp
   subst hxs;refine wpList_plain hgd fun K hK=>?_
   have hrun:(Builtin.append_ #[TS,TS] o.type #[.slice none 0 0,.slice none 0 cap]).run P w = .ok (.slice none 0 0) w:=by
    simp[Builtin.append_,run_underlying ht,sizeOf,typeInfo,hi,Builtin.lenOf,Builtin.firstCells]
   have hx' : a.eval x = .slice none 0 cap:=hx;unfold Oper.wp
   simp[execOp,ho,resolve,invoke,builtin,hs,hx', hrun,Result.andThen]
   exact hK _ _ (h _ _ (Own.nil _ _ _) (brf _ _))
 | some ad =>
   have hc:∀j u,(xs.map (Value.int .i64))[j]?=some u→w.cell? (ad.add j)=some u:=fun j u hu=>by
    have hj:j<xs.length:=by
     have:=(List.getElem?_eq_some_iff.1 hu).1
     simpa using this
    rcases hI.2 with h|⟨b,off,hp,hl,hcell⟩
    ·subst h;simp at hj
    ·cases hp
     rw[Go.WideShapes.add_plain,hcell j hj];rw[List.getElem?_map,List.getElem?_eq_getElem hj]at hu;rw[List.getD_eq_getElem?_getD,List.getElem?_eq_getElem hj]
     simpa using hu
   refine wpList_append_own _ hgd s x TS ho w.heap.size T i0 (I O 0) 1 8 ht hi hz0 hz1 hz2 rfl (by decide) (.slice none 0 0) 0 [] hs (World.ownsRow_nil w _ T 1) ad xs.length cap (xs.map (Value.int .i64)) hx (by simp) hc (by simp[Value.oneCell']) (by unfold maxLen;omega) (by omega) mle ?_
   intro v' w' h1 h2 _;refine h v' w' ?_ ?_
   ·unfold Own
    simpa using h1
   ·exact((brf _ w).grown h2 mle fun k hk=>by cases hk)
end Go.Proofs.YtljibgchickcpaaGreatDoor
namespace Go.Proofs.YtljibgchickcpaaGreatDoor.Sh
def Best (n:Nat) (r:Nat→Int) (k j:Nat) (b:Int):Prop :=
 (b = -1∧∀i,i<j→top n r k i=true)∨∃m:Nat,b=m∧m<j∧top n r k m=false∧∀i,i<j→top n r k i=false→i=m∨before r m i=true
variable {n k j:Nat} {r:Nat→Int} {b:Int}
theorem best_zero:Best n r k 0 (-1) := .inl ⟨rfl,fun i hi=>absurd hi (Nat.not_lt_zero i)⟩
theorem best_skip (h:Best n r k j b)(ht:top n r k j=true):Best n r k (j+1) b:=by
 rcases h with⟨h1,h2⟩|⟨m,h1,h2,h3,h4⟩
 ·exact .inl ⟨h1,fun i hi=>by
   by_cases e:i=j
   ·rw[e];exact ht
   ·exact h2 i (by omega)⟩
 ·exact .inr ⟨m,h1,by omega,h3,fun i hi hf=>by
   by_cases e:i=j
   ·subst e;rw[ht]at hf;cases hf
   ·exact h4 i (by omega) hf⟩
theorem best_first (h:Best n r k j b)(hb:b<0)(ht:top n r k j=false):Best n r k (j+1) j:=by
 rcases h with⟨h1,h2⟩|⟨m,h1,h2,h3,h4⟩
 ·exact .inr ⟨j,rfl,by omega,ht,fun i hi hf=>by
   by_cases e:i=j
   ·exact .inl e
   ·rw[h2 i (by omega)]at hf;cases hf⟩
 ·omega
theorem best_more (h:Best n r k j b)(hb:0≤b)(ht:top n r k j=false)(hr:r b.toNat<r j):Best n r k (j+1) j:=by
 rcases h with⟨h1,h2⟩|⟨m,rfl,h2,h3,h4⟩
 ·omega
 ·rw[Int.toNat_natCast]at hr
  refine .inr ⟨j,rfl,by omega,ht,fun i hi hf=>?_⟩
  by_cases e:i=j
  ·exact .inl e
  ·right
   rcases h4 i (by omega) hf with rfl|h5
   ·rw[before_iff];omega
   ·rw[before_iff]at h5 ⊢;omega
theorem best_keep (h:Best n r k j b)(hb:0≤b)(_ht:top n r k j=false)(hr:¬r b.toNat<r j):Best n r k (j+1) b:=by
 rcases h with⟨h1,h2⟩|⟨m,rfl,h2,h3,h4⟩
 ·omega
 ·rw[Int.toNat_natCast]at hr
  refine .inr ⟨m,rfl,by omega,h3,fun i hi hf=>?_⟩
  by_cases e:i=j
  ·subst e;right;rw[before_iff];omega
  ·exact h4 i (by omega) hf
theorem best_range (h:Best n r k j b):b = -1∨∃m:Nat,b=m∧m<j:=by
 rcases h with⟨h1,_⟩|⟨m,h1,h2,_⟩
 ·exact .inl h1
 ·exact .inr ⟨m,h1,h2⟩
theorem best_end (h:Best n r k n b)(hk:k<n):b=((order n r).getD k 0:Nat):=by
 have hkl:k<(order n r).length:=by rw[order_len];exact hk
 have e:(order n r).getD k 0=(order n r)[k]:=by rw[List.getD_eq_getElem?_getD,List.getElem?_eq_getElem hkl];rfl
 rw[e];have h0:=top_at hkl;have hn:=(order_mem n r _).1 (List.getElem_mem hkl)
 rcases h with⟨_,h2⟩|⟨m,rfl,h2,h3,h4⟩
 ·rw[h2 _ hn]at h0;cases h0
 ·by_cases hm:m=(order n r)[k]
  ·rw[hm]
  ·exfalso
   have b1:=top_best hkl h2 h3 hm
   rcases h4 _ hn h0 with h5|h5
   ·exact hm h5.symm
   ·rw[before_iff]at b1 h5;omega
end Go.Proofs.YtljibgchickcpaaGreatDoor.Sh
namespace Go.Proofs.YtljibgchickcpaaGreatDoor
open Go.RowKit
theorem info_bool:(Tryz.prog.info? 4).map (fun i=>(i.zero,i.size,i.bytes))=some (some (.bool false),1,1):=by kernel_rfl
theorem make_bools (n:Nat)(hn:n≤35184372088832)(w:World) :
  (Instr.makeSlice 199 (I O (n:Int)) (I O (n:Int))).run Tryz.prog w = .ok (.slice (some ⟨w.heap.size,0,none⟩) n n) (w.alloc (.cells (madeCells #[.bool false] n) 4)):=by
 obtain⟨i0,hi,hz0,hz1,hz2⟩:=info_parts info_bool;have hr:=run_make (P:=Tryz.prog) w 199 4 i0 (.bool false) Tryz.underlying199 hi hz0 .i64 .i64 n n (by omega) (Int.le_refl _) (by rw[hz2];omega) (by omega);simp only[Int.toNat_natCast,hz1,Nat.mul_one]at hr;exact hr
structure R3 (w wr:World) (B ob rb n k:Nat) (q r:Nat→Int):Prop where
 below:Below B w wr
 out:Row wr ob n fun j=>I O (if j<k then q j else 0)
 rst:Row wr rb n fun j=>I O (if j<k then r j else 0)
 ho:B≤ob
 hr:B≤rb
 hne:ob≠rb
theorem R3.places {w wr w1:World}{B ob rb n k:Nat}{q r:Nat→Int}(h:R3 w wr B ob rb n k q r)(hk:k<n)(hb:Below wr.heap.size wr w1) :
  (w1.cell? ⟨ob,k,none⟩=some (I O 0)∧w1.frozen? ⟨ob,k,none⟩=false)∧(w1.cell? ⟨rb,k,none⟩=some (I O 0)∧w1.frozen? ⟨rb,k,none⟩=false):=by
 have a:=(h.out.below hb).2 k hk;have c:=(h.rst.below hb).2 k hk;simp only[Nat.lt_irrefl,if_false]at a c;exact⟨a,c⟩
theorem row_up {k:Nat}(f:Nat→Int)(j:Nat):(if j=k then Value.int .i64 (f k) else I O (if j<k then f j else 0))=I O (if j<k+1 then f j else 0):=by
 by_cases e:j=k
 ·subst e;simp
 ·rw[if_neg e];congr 1;by_cases hj:j<k
  ·rw[if_pos hj,if_pos (by omega)]
  ·rw[if_neg hj,if_neg (by omega)]
theorem R3.next {w wr w1:World}{B ob rb n k:Nat}{q r:Nat→Int}(h:R3 w wr B ob rb n k q r)(hk:k<n)(hb:Below wr.heap.size wr w1)(hB:B≤wr.heap.size) :
  R3 w ((w1.setCell ⟨ob,k,none⟩ (I O (q k))).setCell ⟨rb,k,none⟩ (I O (r k))) B ob rb n (k+1) q r :=
 ⟨((bnext h.below hB hb).setCell h.ho _).setCell h.hr _,(((h.out.below hb).set hk _).other h.hne.symm _).congr fun j _=>row_up q j,(((h.rst.below hb).other h.hne _).set hk _).congr fun j _=>row_up r j,h.ho,h.hr,h.hne⟩
theorem R3.start (w:World)(n:Nat)(q r:Nat→Int):R3 w (((w.alloc (.cells (madeCells #[I O 0] n) 3)).alloc (.cells (madeCells #[I O 0] n) 3)).drew) w.heap.size w.heap.size (w.heap.size+1) n 0 q r:=by
 have z:∀(f:Nat→Int) (wr:World) (b:Nat),Row wr b n (fun _=>I O 0)→Row wr b n fun j=>I O (if j<0 then f j else 0):=fun f wr b h=>h.congr fun j _=>by simp
 refine⟨by go_grown,z _ _ _ (((Row.made w n _ _).alloc _).drew),z _ _ _ ?_,Nat.le_refl _,by omega,by omega⟩
 have:=Row.made (w.alloc (.cells (madeCells #[I O 0] n) 3)) n 3 (I O 0);rw[World.size_alloc]at this;exact this.drew
theorem R3.turn {w wr:World}{B ob rb n:Nat}{q r q' r' : Nat→Int}(h:R3 w wr B ob rb n 0 q r):R3 w wr B rb ob n 0 q' r' :=
 ⟨h.below,h.rst.congr fun j _=>by simp,h.out.congr fun j _=>by simp,h.hr,h.ho,h.hne.symm⟩
structure R4 (w wr:World) (B ob rb gb n k:Nat) (t:Int) (zs:List Int):Prop where
 below:Below B w wr
 out:Row wr ob n fun j=>I O (Sh.quo t zs j+if Sh.top n (Sh.rest t zs) k j=true then 1 else 0)
 rst:Row wr rb n fun j=>I O (Sh.rest t zs j)
 gvn:Row wr gb n fun j => .bool (Sh.top n (Sh.rest t zs) k j)
 ho:B≤ob
 hg:B≤gb
 h1:ob≠rb
 h2:ob≠gb
 h3:rb≠gb
theorem R4.drewN {w wr:World}{B ob rb gb n k:Nat}{t:Int}{zs:List Int}(h:R4 w wr B ob rb gb n k t zs)(m:Nat):R4 w (wr.drewN m) B ob rb gb n k t zs :=
 ⟨h.below.trans ⟨rfl,rfl,rfl,Nat.le_refl _,fun _ _=>rfl⟩,h.out,h.rst,h.gvn,h.ho,h.hg,h.h1,h.h2,h.h3⟩
theorem R4.next {w wr:World}{B ob rb gb n k i:Nat}{t:Int}{zs:List Int}(h:R4 w wr B ob rb gb n k t zs)(hk:k<n)(hi:(Sh.order n (Sh.rest t zs)).getD k 0=i) :
  i<n∧wr.cell? ⟨ob,i,none⟩=some (I O (Sh.quo t zs i))∧wr.frozen? ⟨ob,i,none⟩=false∧wr.cell? ⟨gb,i,none⟩=some (.bool false)∧wr.frozen? ⟨gb,i,none⟩=false ∧
  R4 w ((wr.setCell ⟨gb,i,none⟩ (.bool true)).setCell ⟨ob,i,none⟩ (I O (Sh.quo t zs i+1))) B ob rb gb n (k+1) t zs:=by
 have hkl:k<(Sh.order n (Sh.rest t zs)).length:=by rw[Sh.order_len];exact hk
 have e:(Sh.order n (Sh.rest t zs))[k]=i:=by rw[← hi,List.getD_eq_getElem?_getD,List.getElem?_eq_getElem hkl];rfl
 have hin:i<n:=by rw[← e];exact(Sh.order_mem n _ _).1 (List.getElem_mem hkl)
 have ht:Sh.top n (Sh.rest t zs) k i=false:=by rw[← e];exact Sh.top_at hkl
 have c:=h.out.2 i hin;have d:=h.gvn.2 i hin;simp only[ht,Bool.false_eq_true,if_false,Int.add_zero]at c d;refine⟨hin,c.1,c.2,d.1,d.2,(h.below.setCell h.hg _).setCell h.ho _,((h.out.other h.h2.symm _).set hin _).congr fun j _=>?_,(h.rst.other h.h3.symm _).other h.h1 _,((h.gvn.set hin _).other h.h2 _).congr fun j _=>?_,h.ho,h.hg,h.h1,h.h2,h.h3⟩
 ·rw[Sh.top_succ hkl,e]
  by_cases hj:j=i
  ·subst hj
   rw[if_pos rfl]
   simp
  ·rw[if_neg hj]
   simp[hj]
 ·rw[Sh.top_succ hkl,e]
  by_cases hj:j=i
  ·subst hj
   rw[if_pos rfl]
   simp
  ·rw[if_neg hj]
   simp[hj]
theorem right_not {t:Int}{zs:List Int}(h:Sh.Right t zs)(k:Nat):¬Sh.sum zs≤t*zs.getD k 0 / 18446744073709551616:=by
 have w1:=h.w1 k;have hp:=h.pos;have h1:t*zs.getD k 0≤t*Sh.sum zs:=Int.mul_le_mul_of_nonneg_left w1 h.ht;have h2:t*Sh.sum zs≤1099511627776*Sh.sum zs:=Int.mul_le_mul_of_nonneg_right h.ht' (by omega);omega
theorem right_rq {t:Int}{zs:List Int}(h:Sh.Right t zs)(k:Nat):rq t (zs.getD k 0) (Sh.sum zs)=Sh.quo t zs k:=by
 unfold rq;rw[if_neg (right_not h k)];have h1:=h.quo1 k;have h0:=h.quo0 k;have ht:=h.ht'; unfold Sh.quo at *;exact IntWalk.wrap64_in _ ⟨by omega,by omega⟩
theorem right_rr {t:Int}{zs:List Int}(h:Sh.Right t zs)(k:Nat):rr t (zs.getD k 0) (Sh.sum zs)=Sh.rest t zs k:=by
 unfold rr;rw[if_neg (right_not h k)]
 rfl
def shGood (t:Int) (zs:List Int):List Int:=if Sh.sum zs=0 then List.replicate zs.length 0 else Sh.shares t zs
theorem refshares_good (t:Int)(p:Option Addr)(zs:List Int)(cap:Nat)(w:World)(h:Ints w p zs)(h1:zs.length≤64)(h2:Sh.limited t=true)(h3:(zs.any fun x => !Sh.limited x)=false) :
  Calls Tryz.prog 105 #[I O t,.slice p zs.length cap] w (GivesNew w (shGood t zs) 0):=by
 have hl:=h.len;have H:=mh h;have hm:=make_ints zs.length (by omega);have hmb:=make_bools zs.length (by omega);have hsum:=sum_take_bd h1 h3;have HS:=mh hsum;obtain⟨t0,t1⟩:=Sh.limited_iff.1 h2;have hx:∀k,k<zs.length→0≤zs.getD k 0∧zs.getD k 0≤1099511627776:=fun k hk=>by
  rw[List.getD_eq_getElem?_getD,List.getElem?_eq_getElem hk]
  apply Sh.limited_iff.1
  rw[List.any_eq_false]at h3
  simpa using h3 _ (List.getElem_mem hk)
 have HX:=mh hx;have H23:=mh (And.intro h2 h3);clear h hsum hx h2 h3
 go_enter Tryz.func105,Tryz.ntmps105
 go_wp2
 go_loop [31,7] (fun i s=>∃k:Nat,k≤zs.length∧i=I O k∧s = .bool false) (fun i _=>zs.length - (intOf i).toNat)
 case atStart=>exact⟨0,Nat.zero_le _,rfl,by simp;omega⟩
 case round =>
  obtain⟨k,hk,rfl,rfl⟩:=hrel
  by_cases hlt:k<zs.length
  ·obtain⟨b,off,x,rfl,hbl,hcell,hx⟩:=H.out.get hlt
   obtain⟨x0,x1⟩:=HX.out k hlt;rw[hx.out]at x0 x1
   go_wp2
   go_round
   case rel=>exact⟨k+1,by omega,by go_num,by simp;omega⟩
   case measure=>simp[intOf];omega
  ·obtain rfl:k=zs.length:=by omega
   clear hlt hk
   go_wp2
   go_loop [48,6] (fun i s=>∃k:Nat,k≤zs.length∧i=I O k∧s=I O (Sh.sum (zs.take k))) (fun i _=>zs.length - (intOf i).toNat)
   case atStart=>exact⟨0,Nat.zero_le _,rfl,by simp[Sh.sum]⟩
   case round =>
    obtain⟨k,hk,rfl,rfl⟩:=hrel;have hb:=HS.out k
    by_cases hlt:k<zs.length
    ·obtain⟨b,off,x,rfl,hbl,hcell,hx⟩:=H.out.get hlt
     have hb1:=HS.out (k+1);rw[sum_take_succ hlt,hx.out]at hb1;have hst:=mh (sum_take_succ hlt)
     go_wp2
     go_round
     case rel=>exact⟨k+1,by omega,by go_num,by rw[hst.out,hx.out]⟩
     case measure=>simp[intOf];omega
    ·obtain rfl:k=zs.length:=by omega
     rw[List.take_length]at hb ⊢;clear hlt hk
     go_upto_region 17 with fail
     go_cut [12,13] (fun s12 s13 wx=>∃ob rb:Nat,s12 = .slice (some ⟨ob,0,none⟩) zs.length zs.length∧s13 = .slice (some ⟨rb,0,none⟩) zs.length zs.length∧R3 w wx w.heap.size ob rb zs.length 0 (Sh.quo t zs) (Sh.rest t zs)∧w.heap.size≤wx.heap.size)
     case first =>
      go_region
      all_goals (go_wp2_with fail;go_meet)
      ·exact⟨_,_,rfl,rfl,R3.start w zs.length _ _,by simp;omega⟩
      ·exact⟨_,_,rfl,rfl,(R3.start w zs.length (Sh.quo t zs) (Sh.rest t zs)).turn,by simp;omega⟩
     case rest =>
      obtain⟨ob,rb,rfl,rfl,hR3,hsz⟩:=hcut
      by_cases hs:Sh.sum zs=0
      ·have hsB:(Sh.sum zs==0)=true:=by rw[hs];rfl
       have hg:shGood t zs=List.replicate zs.length 0:=by unfold shGood;rw[if_pos hs]
       have hR:=mh hR3;have HG:=mh hg;clear hs hg hR3
       go_wp2
       go_ret2
       rw[HG.out];refine⟨some ⟨ob,0,none⟩,zs.length,by rw[List.length_replicate];rfl,?_,hR.out.below,fun a h=>by cases h;exact hR.out.ho⟩;have:=Row.ints (hR.out.out.congr (g:=fun _=>I O 0) fun j _=>by simp) (by unfold maxLen;omega)
       rwa [show(List.range zs.length).map (fun _=>(0:Int))=List.replicate zs.length 0 from by simp[List.map_const']]at this
      ·have hsB:(Sh.sum zs==0)=false:=by simpa using hs
       have hg:shGood t zs=Sh.shares t zs:=by unfold shGood;rw[if_neg hs]
       have hRt:=any_odd H23.out.1 H23.out.2 hs;have HR:=mh hRt;have HG:=mh hg;have H3:=mh hR3;have hdv:∀k W,Calls Tryz.prog 126 #[I O t,I O (zs.getD k 0),I O (Sh.sum zs)] W fun e w' => e = .returned (.tuple #[I O (Sh.quo t zs k),I O (Sh.rest t zs k),.bool (rk t (zs.getD k 0) (Sh.sum zs))])∧∃n,w' = W.drewN n:=fun k W=>by
        obtain⟨d1,d2,d3⟩:=right_div hRt h1 k;have:=refdivide_any d1 W
        rwa [right_rq hRt k,right_rr hRt k]at this
       have HD:=mh hdv;clear hdv hg hs hR3 hRt hb
       go_wp2_with fail
       go_loopw [68,14] (fun i l wr=>∃k:Nat,k≤zs.length∧i=I O k∧l=I O (t - Sh.sum ((List.range k).map (Sh.quo t zs)))∧R3 w wr w.heap.size ob rb zs.length k (Sh.quo t zs) (Sh.rest t zs)∧w.heap.size≤wr.heap.size) (fun i _ _=>zs.length - (intOf i).toNat)
       case atStart=>exact⟨0,Nat.zero_le _,rfl,by simp[Sh.sum],H3.out,hsz⟩
       case round =>
        clear H3 hsz;obtain⟨k,hk,rfl,rfl,hL,hsz⟩:=hrel;have HL:=mh hL
        by_cases hlt:k<zs.length
        ·obtain⟨b,off,x,rfl,hbl,hcell0,hx⟩:=H.out.get hlt
         have hcell:wr.cell? ⟨b,off+k,none⟩=some (I O x):=(hL.below.cell (p:=⟨b,off+k,none⟩) hbl).trans hcell0;have hne:=hL.hne;have hd:=HD.out k;rw[hx.out]at hd;have Hd:=mh hd;clear hL hcell0 hd;have hk0:(0:Int)≤(k:Int):=inn _;have hk1:(k:Int)<(zs.length:Int):=by omega
         have hq:=HR.out.quo_bd k;have hQ:=HR.out.quo_sum k
         go_wp2_with (first|(go_at_call 126;refine(Hd.out _).mono ?_;rintro e w1 ⟨rfl,m,rfl⟩;have hb1:=drewN_below wr m;obtain⟨⟨a1,a2⟩,⟨c1,c2⟩⟩:=HL.out.places hlt hb1))
         go_roundw
         case rel=>exact⟨k+1,by omega,by go_num,by rw[Sh.quo_succ];congr 1;omega,HL.out.next hlt hb1 hsz,by simpa [World.setCell,World.drewN] using hsz⟩
         case measure=>simp[intOf];omega
        ·obtain rfl:k=zs.length:=by omega
         clear hlt hk HD;obtain⟨e1, -⟩:=HR.out.left_eq;have hll:=HR.out.left_lt;rw[← e1];clear e1;have h4s:R4 w (wr.alloc (.cells (madeCells #[.bool false] zs.length) 4)) w.heap.size ob rb wr.heap.size zs.length 0 t zs:=by
          refine⟨hL.below.alloc hsz _,(hL.out.congr fun j hj=>?_).alloc _,(hL.rst.congr fun j hj=>?_).alloc _,(Row.made wr zs.length _ _).congr fun j _=>by rw[Sh.top_zero],hL.ho,hsz,hL.hne,Nat.ne_of_lt hL.out.1,Nat.ne_of_lt hL.rst.1⟩
          ·rw[if_pos hj,Sh.top_zero];simp
          ·rw[if_pos hj]
         have H4:=mh h4s;clear h4s hL HL;have hnl:=HR.out.len
         go_wp2_with fail
         generalize wr.alloc (.cells (madeCells #[.bool false] zs.length) 4)=w4 at *;generalize wr.heap.size=gb at *
         go_loopw [14] (fun l wr' => ∃k:Nat,k≤Sh.left t zs∧l=I O ((Sh.left t zs:Int) - k)∧R4 w wr' w.heap.size ob rb gb zs.length k t zs) (fun l _=>(intOf l).toNat)
         case atStart=>exact⟨0,Nat.zero_le _,by simp,H4.out⟩
         case round =>
          clear H4;obtain⟨w5,rfl⟩:∃w5:World,w5=wr:=⟨_,rfl⟩;obtain⟨k,hk,rfl,hL⟩:=hrel
          by_cases hkl:k<Sh.left t zs
          ·have HL:=mh hL
           clear hL
           go_wp2_with fail
           go_loopw [18,103] (fun b i wx=>∃(j:Nat) (bi:Int),j≤zs.length∧i=I O j∧b=I O bi∧Sh.Best zs.length (Sh.rest t zs) k j bi∧∃m,wx=w5.drewN m) (fun _ i _=>zs.length - (intOf i).toNat)
           case atStart=>exact⟨0, -1,Nat.zero_le _,rfl,rfl,Sh.best_zero,0,rfl⟩
           case round =>
            obtain⟨j,bi,hj,rfl,rfl,hbst,m,rfl⟩:=hrel;have HB:=mh hbst
            by_cases hjl:j<zs.length
            ·have hj0:(0:Int)≤(j:Int):=inn _
             have hj1:(j:Int)<(zs.length:Int):=by omega
             have cg:w5.cell? ⟨gb,j,none⟩=some (.bool (Sh.top zs.length (Sh.rest t zs) k j)):=(HL.out.gvn.2 j hjl).1;have cr:w5.cell? ⟨rb,j,none⟩=some (I O (Sh.rest t zs j)):=(HL.out.rst.2 j hjl).1
             rcases Bool.eq_false_or_eq_true (Sh.top zs.length (Sh.rest t zs) k j) with ht|ht
             ·rw[ht]at cg
              have HT:=mh ht;clear ht hbst
              go_wp2_with fail
              go_quiet (fail)
              go_wp2
              go_roundw
              case rel=>exact⟨j+1,bi,by omega,by go_num,rfl,Sh.best_skip HB.out HT.out,_,rfl⟩
              case measure=>simp[intOf];omega
             ·rw[ht]at cg
              have HT:=mh ht
              rcases Sh.best_range hbst with hneg|⟨mm,hmm,hml⟩
              ·subst hneg
               clear ht hbst
               go_wp2_with fail
               go_quiet (fail)
               go_wp2
               go_roundw
               case rel=>exact⟨j+1,j,by omega,by go_num,rfl,Sh.best_first HB.out (by omega) HT.out,_,rfl⟩
               case measure=>simp[intOf];omega
              ·subst hmm
               have cm:w5.cell? ⟨rb,mm,none⟩=some (I O (Sh.rest t zs mm)):=(HL.out.rst.2 mm (by omega)).1;have hm0:(0:Int)≤(mm:Int):=inn _;have hm1:(mm:Int)<(zs.length:Int):=by omega
               have hm2:decide ((mm:Int)<0)=false:=dqf (by omega)
               by_cases hr:Sh.rest t zs mm<Sh.rest t zs j
               ·have HQ:=mh (Sh.best_more HB.out hm0 HT.out (by rw[Int.toNat_natCast];exact hr))
                clear ht hbst
                go_wp2_with fail
                go_quiet (fail)
                go_wp2
                go_roundw
                case rel=>exact⟨j+1,j,by omega,by go_num,rfl,HQ.out,_,rfl⟩
                case measure=>simp[intOf];omega
               ·have HQ:=mh (Sh.best_keep HB.out hm0 HT.out (by rw[Int.toNat_natCast];exact hr))
                clear ht hbst
                go_wp2_with fail
                go_quiet (fail)
                go_wp2
                go_roundw
                case rel=>exact⟨j+1,mm,by omega,by go_num,rfl,HQ.out,_,rfl⟩
                case measure=>simp[intOf];omega
            ·obtain rfl:j=zs.length:=by omega
             have hbe:=Sh.best_end hbst (by omega);obtain⟨i,hi⟩:∃i,(Sh.order zs.length (Sh.rest t zs)).getD k 0=i:=⟨_,rfl⟩;rw[hi]at hbe;subst hbe;obtain⟨n1,n2,n3,n4,n5,n6⟩:=(HL.out.drewN m).next (by omega) hi;have N6:=mh n6;have hq:=HR.out.quo_bd i;have hi0:(0:Int)≤(i:Int):=inn _;have hi1:(i:Int)<(zs.length:Int):=by omega
             have hne:=HL.out.h2;clear hbst HB n6 hi hjl hj
             go_wp2
             go_roundw
             case rel=>exact⟨k+1,by omega,by congr 1;omega,N6.out⟩
             case measure=>simp[intOf];omega
          ·obtain rfl:k=Sh.left t zs:=by omega
           have HL:=mh hL;clear hL hkl hk
           go_wp2
           go_ret2
           rw[HG.out];refine⟨some ⟨ob,0,none⟩,zs.length,by simp[Sh.shares],HL.out.out.ints (by unfold maxLen;omega),HL.out.below,fun a h=>by cases h;exact HL.out.ho⟩
theorem any_take_succ {zs:List Int}{k:Nat}(hk:k<zs.length):((zs.take (k+1)).any fun x => !Sh.limited x)=((zs.take k).any (fun x => !Sh.limited x) || !Sh.limited (zs.getD k 0)):=by
 rw[tsg hk,List.any_append,List.getD_eq_getElem?_getD,List.getElem?_eq_getElem hk]
 simp
theorem refshares_bad (t:Int)(p:Option Addr)(zs:List Int)(cap:Nat)(w:World)(h:Ints w p zs)(hb:64<zs.length∨Sh.limited t=false∨(zs.any fun x => !Sh.limited x)=true) :
  Calls Tryz.prog 105 #[I O t,.slice p zs.length cap] w fun e w' => e = .returned (.tuple #[.slice none 0 0,I O (if 64<zs.length then 1 else 2)])∧Below w.heap.size w w' :=by
 have hl:=h.len;have H:=mh h;clear h
 by_cases h1:64<zs.length
 ·rw[if_pos h1]
  clear hb
  go_enter Tryz.func105,Tryz.ntmps105
  go_wp2
  go_ret2
  exact⟨rfl,brf _ _⟩
 ·rw[if_neg h1]
  by_cases h2:Sh.limited t=false
  ·have ht:t<0∨1099511627776<t:=by
    apply Classical.byContradiction
    intro hn;rw[Sh.limited_iff.2 ⟨by omega,by omega⟩]at h2
    cases h2
   clear hb h2
   rcases (show t<0∨(0≤t∧1099511627776<t) by omega) with h4|⟨h4,h5⟩
   ·clear ht
    go_enter Tryz.func105,Tryz.ntmps105
    go_wp2
    go_loop [31,7] (fun i s=>∃k:Nat,k≤zs.length∧i=I O k∧s = .bool true) (fun i _=>zs.length - (intOf i).toNat)
    case atStart=>exact⟨0,Nat.zero_le _,rfl,by first|rfl|(simp;done)|(simp;omega)⟩
    case round =>
     obtain⟨k,hk,rfl,rfl⟩:=hrel
     by_cases hlt:k<zs.length
     ·obtain⟨b,off,x,rfl,hbl,hcell,hx⟩:=H.out.get hlt
      go_wp2
      go_round
      case rel=>exact⟨k+1,by omega,by go_num,by first|rfl|simp⟩
      case measure=>simp[intOf];omega
     ·obtain rfl:k=zs.length:=by omega
      clear hlt hk
      go_wp2
      go_ret2
      exact⟨rfl,brf _ _⟩
   ·clear ht
    go_enter Tryz.func105,Tryz.ntmps105
    go_wp2
    go_loop [31,7] (fun i s=>∃k:Nat,k≤zs.length∧i=I O k∧s = .bool true) (fun i _=>zs.length - (intOf i).toNat)
    case atStart=>exact⟨0,Nat.zero_le _,rfl,by first|rfl|(simp;done)|(simp;omega)⟩
    case round =>
     obtain⟨k,hk,rfl,rfl⟩:=hrel
     by_cases hlt:k<zs.length
     ·obtain⟨b,off,x,rfl,hbl,hcell,hx⟩:=H.out.get hlt
      go_wp2
      go_round
      case rel=>exact⟨k+1,by omega,by go_num,by first|rfl|simp⟩
      case measure=>simp[intOf];omega
     ·obtain rfl:k=zs.length:=by omega
      clear hlt hk
      go_wp2
      go_ret2
      exact⟨rfl,brf _ _⟩
  ·replace h2:Sh.limited t=true:=by simpa using h2
   have h3:(zs.any fun x => !Sh.limited x)=true:=by
    rcases hb with h|h|h
    ·exact absurd h h1
    ·rw[h2]at h;cases h
    ·exact h
   obtain⟨t0,t1⟩:=Sh.limited_iff.1 h2;have H3:=mh h3;clear hb h2 h3
   go_enter Tryz.func105,Tryz.ntmps105
   go_wp2
   go_loop [31,7] (fun i s=>∃(k:Nat) (c:Bool),k≤zs.length∧i=I O k∧s = .bool c∧Hid (((zs.take k).any fun x => !Sh.limited x)=c)) (fun i _=>zs.length - (intOf i).toNat)
   case atStart=>exact⟨0,false,Nat.zero_le _,rfl,by first|rfl|(simp;done)|(simp;omega),rfl⟩
   case round =>
    obtain⟨k,c,hk,rfl,rfl,hc⟩:=hrel
    by_cases hlt:k<zs.length
    ·obtain⟨b,off,x,rfl,hbl,hcell,hx⟩:=H.out.get hlt
     have hs:=mh (any_take_succ hlt)
     cases c with
     | true =>
       go_wp2
       go_round
       case rel=>exact⟨k+1,true,by omega,by go_num,by first|rfl|simp,by show _=_;rw[hs.out,hc.out];rfl⟩
       case measure=>simp[intOf];omega
     | false =>
       have hd:Hid ((!Sh.limited x)=(decide (x<0)||decide (1099511627776<x))):=by
        show(!Sh.limited x)=_
        unfold Sh.limited;rw[Bool.eq_iff_iff];first|(simp;done)|(simp;omega)
       go_wp2
       all_goals
        go_round
        case rel=>exact⟨k+1,_,by omega,by go_num,rfl,by show _=_;rw[hs.out,hc.out,hx.out,hd.out];first|rfl|(simp;done)|(simp;omega)⟩
        case measure=>simp[intOf];omega
    ·obtain rfl:k=zs.length:=by omega
     have hct:c=true:=by rw[← hc.out,List.take_length,H3.out]
     subst hct;clear hlt hk hc
     go_wp2
     go_ret2
     exact⟨rfl,brf _ _⟩
theorem refshares_new (t:Int)(p:Option Addr)(zs:List Int)(cap:Nat)(w:World)(h:Ints w p zs) :
  Calls Tryz.prog 105 #[I O t,.slice p zs.length cap] w (GivesNew w (shList t zs) (shErr t zs)):=by
 by_cases hb:64<zs.length∨Sh.limited t=false∨(zs.any fun x => !Sh.limited x)=true
 ·refine(refshares_bad t p zs cap w h hb).mono fun e w' ⟨he,hw⟩=>?_
  have e1:shErr t zs=if 64<zs.length then 1 else 2:=by
   unfold shErr
   by_cases h1:64<zs.length
   ·rw[if_pos h1,if_pos h1]
   ·rw[if_neg h1,if_neg h1,if_pos (hb.resolve_left h1)]
  have e2:shList t zs = []:=by unfold shList;rw[if_pos];rw[e1];split<;>decide
  rw[e1,e2];exact⟨none,0,he,Ints.nil _ _,hw,fun _ h=>by cases h⟩
 ·have h1:zs.length≤64:=by omega
  have h2:Sh.limited t=true:=by
   have:¬Sh.limited t=false:=fun h=>hb (.inr (.inl h))
   simpa using this
  have h3:(zs.any fun x => !Sh.limited x)=false:=Bool.eq_false_iff.2 fun h=>hb (.inr (.inr h))
  have e1:shErr t zs=0:=by unfold shErr;rw[if_neg (by omega),if_neg (by rw[h2,h3];simp)]
  have e2:shList t zs=shGood t zs:=by unfold shList shGood;rw[e1,if_neg (by simp)]
  rw[e1,e2];exact refshares_good t p zs cap w h h1 h2 h3
theorem refshares_any (t:Int)(p:Option Addr)(zs:List Int)(cap:Nat)(w:World)(h:Ints w p zs) :
  Calls Tryz.prog 105 #[I O t,.slice p zs.length cap] w (GivesInts w (shList t zs) (shErr t zs)):=(refshares_new t p zs cap w h).mono fun _ _ h=>h.ints
theorem refReduced_any (p:Option Addr)(D:List (Int × Int))(cap:Nat)(a:Int)(w:World)(h:Pairs w p D) :
  Calls Tryz.prog 110 #[.slice p D.length cap,I O a] w fun e w' => e = .returned (.tuple #[I O (Ce.redVal D a),I O (Ce.redErr D a)])∧∃n,w' = w.drewN n:=by
 have hc:=refcheck_any p D cap w h
 by_cases h1:Ce.Right D
 ·rw[Ce.chk_zero.2 h1]at hc
  by_cases h2:En.money a=true
  ·obtain⟨a0,a1⟩:=En.money_iff.1 h2
   have he:Ce.redErr D a=0:=by unfold Ce.redErr;rw[if_neg (by rw[Ce.chk_zero.2 h1];simp),if_neg (by rw[h2];simp)]
   have hv:Ce.redVal D a=Ce.red D a:=by unfold Ce.redVal;rw[if_neg (by rw[he];simp)]
   rw[he,hv];have HC:=mh hc;have H:=mh h;have R:=mh h1;have h6:=h1.len;clear hc h he hv h1
   go_enter Tryz.func110,Tryz.ntmps110
   go_wp2_with (first|(go_at_call 109;refine(HC.out).mono ?_;rintro e w1 ⟨rfl,n0,rfl⟩)|(go_at_call 62;refine(refmoney_any _ _).mono ?_;rintro e w' ⟨rfl,rfl⟩))
   go_loopw [8,7] (fun i o wr=>∃k n:Nat,k≤D.length∧i=I O k∧o=I O (a - Ce.cuts D a k)∧wr=w.drewN n) (fun i _ _=>D.length - (intOf i).toNat)
   case atStart=>exact⟨0,n0,Nat.zero_le _,rfl,by simp[Ce.cuts],rfl⟩
   case round =>
    obtain⟨k,n,hk,rfl,rfl,hwr⟩:=hrel;have HW:=mh hwr;have hcells:∀a,wr.cell? a=w.cell? a:=fun a=>by rw[hwr];rfl
    have HCE:=mh hcells;clear hwr hcells;have hp:=R.out.red_part a0 a1 hk
    by_cases hlt:k<D.length
    ·obtain⟨b,off,x,y,rfl,hbl,hx0,hy0,hxy⟩:=H.out.get hlt
     rw[← HCE.out]at hx0 hy0;obtain⟨f1,f2,f3,f4,f5,f6⟩:=cut_facts R.out hlt hxy.out a0 a1;have hp2:=R.out.red_part (k:=k+1) a0 a1 (by omega);have hcs:Ce.cuts D a (k+1)=Ce.cuts D a k+Ce.cut D a k:=rfl;rw[hcs]at hp2;have CS:=mh hcs;have hk0:(0:Int)≤(k:Int):=inn _;have hk1:(k:Int)<(D.length:Int):=by omega
     have f5' := f5.symm;have hz:0≤Ce.span D a k∧(Ce.span D a k=0→Ce.cut D a k=0):=⟨f3.1,fun e=>by rw[f5,e,Int.zero_mul];decide⟩;clear f5
     by_cases hlt2:k+1<D.length
     ·obtain⟨b', off', x2,y2,e, -,hx2,hy2,hxy2⟩:=H.out.get hlt2
      rw[← HCE.out]at hx2 hy2;simp only[Option.some.injEq,Addr.mk.injEq]at e;obtain⟨rfl,rfl, -⟩:=e;have ht:Ce.till D a k=min a x2:=by unfold Ce.till;rw[if_pos hlt2,fr_eq hxy2.out]
      have hfr2:=R.out.fr0 hlt2;rw[fr_eq hxy2.out]at hfr2;rw[ht]at f6;clear ht hcs hy2
      by_cases hgt:x<min a x2
      ·have hS:min a x2 - x=Ce.span D a k:=by omega
       generalize Ce.span D a k=S at *;have hmw:IntKind.i64.wrap (S*y)=S*y:=by
        generalize S*y=q at f4 ⊢;rw[IntKind.wrap_i64];omega
       generalize Ce.cut D a k=C at *;generalize Ce.cuts D a k=Q at *;have hsw:IntKind.i64.wrap (a - Q - C)=a - Q - C:=by rw[IntKind.wrap_i64];omega
       clear f6 hz
       go_wp2_with fail
       go_quiet ((go_at_call 132;exact Calls.quiet_of_same (Calls.turn (refup_any _ _ _))))
       go_wp2
       go_roundw
       case rel=>exact⟨k+1,_,by omega,by go_num,by rw[CS.out];congr 1;omega,by rw[HW.out];exact drewN_two _ _ _⟩
       case measure=>simp[intOf];omega
      ·have hC:Ce.cut D a k=0:=hz.2 (by omega)
       clear f6 hz f5' f4 f3
       go_wp2
       go_roundw
       case rel=>exact⟨k+1,n,by omega,by go_num,by rw[CS.out,hC];congr 1;omega,HW.out⟩
       case measure=>simp[intOf];omega
     ·have ht:Ce.till D a k=a:=by unfold Ce.till;rw[if_neg hlt2]
      rw[ht]at f6;clear ht hcs
      by_cases hgt:x<a
      ·have hS:a - x=Ce.span D a k:=by omega
       generalize Ce.span D a k=S at *;have hmw:IntKind.i64.wrap (S*y)=S*y:=by
        generalize S*y=q at f4 ⊢;rw[IntKind.wrap_i64];omega
       generalize Ce.cut D a k=C at *;generalize Ce.cuts D a k=Q at *;have hsw:IntKind.i64.wrap (a - Q - C)=a - Q - C:=by rw[IntKind.wrap_i64];omega
       clear f6 hz
       go_wp2_with fail
       go_quiet ((go_at_call 132;exact Calls.quiet_of_same (Calls.turn (refup_any _ _ _))))
       go_wp2
       go_roundw
       case rel=>exact⟨k+1,_,by omega,by go_num,by rw[CS.out];congr 1;omega,by rw[HW.out];exact drewN_two _ _ _⟩
       case measure=>simp[intOf];omega
      ·have hC:Ce.cut D a k=0:=hz.2 (by omega)
       clear f6 hz f5' f4 f3
       go_wp2
       go_roundw
       case rel=>exact⟨k+1,n,by omega,by go_num,by rw[CS.out,hC];congr 1;omega,HW.out⟩
       case measure=>simp[intOf];omega
    ·obtain rfl:k=D.length:=by omega
     clear hlt hk
     go_wp2
     go_ret2
     exact⟨rfl,n,HW.out⟩
  ·have h3:En.money a=false:=by simpa using h2
   have he:Ce.redErr D a=67:=by unfold Ce.redErr;rw[if_neg (by rw[Ce.chk_zero.2 h1];simp),if_pos h3]
   have hv:Ce.redVal D a=0:=by unfold Ce.redVal;rw[if_pos (by rw[he];decide)]
   rw[he,hv];have HC:=mh hc;clear hc h he hv h2
   go_enter Tryz.func110,Tryz.ntmps110
   go_wp2_with (first|(go_at_call 109;refine(HC.out).mono ?_;rintro e w1 ⟨rfl,n0,rfl⟩)|(go_at_call 62;refine(refmoney_any _ _).mono ?_;rintro e w' ⟨rfl,rfl⟩))
   go_ret2
   exact⟨rfl,n0,rfl⟩
 ·rw[Ce.chk_not h1]at hc
  have he:Ce.redErr D a=66:=by unfold Ce.redErr;rw[if_pos (by rw[Ce.chk_not h1];decide)]
  have hv:Ce.redVal D a=0:=by unfold Ce.redVal;rw[if_pos (by rw[he];decide)]
  rw[he,hv];have HC:=mh hc;clear hc h he hv h1
  go_enter Tryz.func110,Tryz.ntmps110
  go_wp2_with (first|(go_at_call 109;refine(HC.out).mono ?_;rintro e w1 ⟨rfl,n0,rfl⟩))
  go_ret2
  exact⟨rfl,n0,rfl⟩
theorem sumErr_odd {xs:List Int}{k:Nat}(hk:k<xs.length){x:Int}(hx:xs.getD k 0=x)(h:En.money x=false):Ce.sumErr xs=67:=by
 unfold Ce.sumErr;rw[if_pos]
 left
 rw[List.any_eq_true];refine⟨x,?_,by rw[h];rfl⟩;rw[← hx,List.getD_eq_getElem?_getD,List.getElem?_eq_getElem hk];exact List.getElem_mem hk
theorem sumErr_of {xs:List Int}(h:∀j,j<xs.length→En.money (xs.getD j 0)=true):(En.money (Sh.sum xs)=true→Ce.sumErr xs=0)∧(En.money (Sh.sum xs)=false→Ce.sumErr xs=67):=by
 have h4:(xs.any fun x => !En.money x)=false:=by
  rw[List.any_eq_false];intro x hx;obtain⟨j,hj,rfl⟩:=List.getElem_of_mem hx;have:=h j hj;rw[List.getD_eq_getElem?_getD,List.getElem?_eq_getElem hj]at this;have e:En.money xs[j]=true:=this;rw[e]
  simp
 unfold Ce.sumErr;rw[h4];refine⟨fun h=>?_,fun h=>?_⟩
 ·rw[h];simp
 ·rw[h];simp
theorem sum_pre {xs:List Int}{k:Nat}(hk:k≤xs.length)(h16:xs.length≤16)(h:∀j,j<k→En.money (xs.getD j 0)=true):0≤Sh.sum (xs.take k)∧Sh.sum (xs.take k)≤1099511627776:=by
 have hx:∀x∈xs.take k,0≤x∧x≤68719476736:=fun x hx=>by
  obtain⟨j,hj,rfl⟩:=List.getElem_of_mem hx;rw[List.length_take]at hj;have:=h j (by omega);rw[List.getD_eq_getElem?_getD,List.getElem?_eq_getElem (by omega)]at this;rw[List.getElem_take];exact En.money_iff.1 this
 refine⟨Sh.sum_nonneg fun x m=>(hx x m).1,?_⟩
 have:=Sh.sum_le_len fun x m=>(hx x m).2
 have hl:(xs.take k).length≤xs.length:=List.length_take_le' _ _;omega
theorem farm_cases (D:List (Int × Int))(m:Int)(xs:List Int) :
  (¬Ce.Right D∧Ce.chk D=66∧Ce.farmErr D m xs=66)∨(Ce.chk D=0∧En.money m=false∧Ce.farmErr D m xs=67)∨(Ce.chk D=0∧En.money m=true∧16<xs.length∧Ce.farmErr D m xs=1) ∨
  (Ce.chk D=0∧En.money m=true∧xs.length≤16∧Ce.sumErr xs=67∧Ce.farmErr D m xs=67)∨(Ce.chk D=0∧En.money m=true∧Ce.Fine D m xs):=by
 by_cases h1:Ce.Right D
 ·have c:=Ce.chk_zero.2 h1
  cases h2:En.money m
  ·exact .inr (.inl ⟨c,rfl,by unfold Ce.farmErr;rw[if_neg (by rw[c];simp),if_pos h2]⟩)
  ·by_cases h3:16<xs.length
   ·exact .inr (.inr (.inl ⟨c,rfl,h3,by unfold Ce.farmErr;rw[if_neg (by rw[c];simp),if_neg (by rw[h2];simp),if_pos h3]⟩))
   ·have e:Ce.farmErr D m xs=Ce.sumErr xs:=by unfold Ce.farmErr;rw[if_neg (by rw[c];simp),if_neg (by rw[h2];simp),if_neg h3]
    by_cases h4:Ce.sumErr xs=0
    ·exact .inr (.inr (.inr (.inr ⟨c,rfl,Ce.fine_of (by rw[e,h4])⟩)))
    ·have h5:Ce.sumErr xs=67:=by unfold Ce.sumErr at h4 ⊢;split at h4<;>simp_all
     exact .inr (.inr (.inr (.inl ⟨c,rfl,by omega,h5,by rw[e,h5]⟩)))
 ·have c:=Ce.chk_not h1
  exact .inl ⟨h1,c,by unfold Ce.farmErr;rw[if_pos (by rw[c];decide)]⟩
theorem farm_bad {D:List (Int × Int)}{m:Int}{xs:List Int}{r:Int}(h:Ce.farmErr D m xs=r)(hr:r≠0):Ce.farm D m xs = []:=by
 unfold Ce.farm;rw[if_pos (by rw[h];exact hr)]
theorem farm_good {D:List (Int × Int)}{m:Int}{xs:List Int}(c:Ce.chk D=0)(hm:En.money m=true)(h16:xs.length≤16):Ce.farmErr D m xs=Ce.sumErr xs:=by
 unfold Ce.farmErr;rw[if_neg (by rw[c];simp),if_neg (by rw[hm];simp),if_neg (by omega)]
theorem reffarm_new (p:Option Addr)(D:List (Int × Int))(cap:Nat)(m:Int)(q:Option Addr)(xs:List Int)(capx:Nat)(w:World)(hP:Pairs w p D)(hI:Ints w q xs) :
  Calls Tryz.prog 83 #[.slice p D.length cap,I O m,.slice q xs.length capx] w (GivesNew w (Ce.farm D m xs) (Ce.farmErr D m xs)):=by
 have hc:=refcheck_any p D cap w hP;have hlen:=hI.len
 rcases (show(Ce.chk D=66∧Ce.farmErr D m xs=66)∨(Ce.chk D=0∧En.money m=false∧Ce.farmErr D m xs=67)∨(Ce.chk D=0∧En.money m=true∧16<xs.length∧Ce.farmErr D m xs=1)∨(Ce.chk D=0∧En.money m=true∧xs.length≤16) by
  rcases farm_cases D m xs with⟨_,c,e⟩|⟨c,hm,e⟩|⟨c,hm,h16,e⟩|⟨c,hm,h16,hs,e⟩|⟨c,hm,hF⟩
  ·exact .inl ⟨c,e⟩
  ·exact .inr (.inl ⟨c,hm,e⟩)
  ·exact .inr (.inr (.inl ⟨c,hm,h16,e⟩))
  ·exact .inr (.inr (.inr ⟨c,hm,h16⟩))
  ·exact .inr (.inr (.inr ⟨c,hm,hF.len⟩))) with⟨c,e⟩|⟨c,hm,e⟩|⟨c,hm,h16,e⟩|⟨c,hm,h16⟩
 ·rw[c]at hc
  rw[e,farm_bad e (by decide)];have HC:=mh hc;clear hP hI hc c e
  go_enter Tryz.func83,Tryz.ntmps83
  go_wp2_with (first|(go_at_call 109;refine(HC.out).mono ?_;rintro e w1 ⟨rfl,n0,rfl⟩))
  go_ret2
  exact⟨none,0,rfl,Ints.nil _ _,drewN_below _ _,fun _ h=>by cases h⟩
 ·rw[c]at hc
  rw[e,farm_bad e (by decide)];have HC:=mh hc;clear hP hI hc c e
  go_enter Tryz.func83,Tryz.ntmps83
  go_wp2_with (first|(go_at_call 109;refine(HC.out).mono ?_;rintro e w1 ⟨rfl,n0,rfl⟩)|(go_at_call 62;refine(refmoney_any _ _).mono ?_;rintro e w' ⟨rfl,rfl⟩))
  go_ret2
  exact⟨none,0,rfl,Ints.nil _ _,drewN_below _ _,fun _ h=>by cases h⟩
 ·rw[c]at hc
  rw[e,farm_bad e (by decide)];have HC:=mh hc;clear hP hI hc c e
  go_enter Tryz.func83,Tryz.ntmps83
  go_wp2_with (first|(go_at_call 109;refine(HC.out).mono ?_;rintro e w1 ⟨rfl,n0,rfl⟩)|(go_at_call 62;refine(refmoney_any _ _).mono ?_;rintro e w' ⟨rfl,rfl⟩))
  go_ret2
  exact⟨none,0,rfl,Ints.nil _ _,drewN_below _ _,fun _ h=>by cases h⟩
 ·rw[c]at hc
  have HE:=mh (farm_good c hm h16);have HC:=mh hc;have H:=mh hI;have HP:=mh hP;have C:=mh (And.intro c hm);clear hP hI hc c
  go_enter Tryz.func83,Tryz.ntmps83
  go_wp2_with (first|(go_at_call 109;refine(HC.out).mono ?_;rintro e w1 ⟨rfl,n0,rfl⟩)|(go_at_call 62;refine(refmoney_any _ _).mono ?_;rintro e w' ⟨rfl,rfl⟩))
  obtain⟨wz,hwz⟩:∃wz,wz=w.drewN n0:=⟨_,rfl⟩;rw[← hwz];have HIZ:=mh (show Ints wz q xs by rw[hwz];exact H.out);have HPZ:=mh (show Pairs wz p D by rw[hwz];exact HP.out);have HB:=mh (show Below w.heap.size w wz by rw[hwz];exact drewN_below _ _);clear hwz HC H HP
  go_loop [10,9] (fun i s=>∃k:Nat,k≤xs.length∧i=I O k∧s=I O (Sh.sum (xs.take k))∧∀j,j<k→En.money (xs.getD j 0)=true) (fun i _=>xs.length - (intOf i).toNat)
  case atStart=>exact⟨0,Nat.zero_le _,rfl,by simp[Sh.sum],fun j hj=>absurd hj (Nat.not_lt_zero j)⟩
  case round =>
   obtain⟨k,hk,rfl,rfl,hok⟩:=hrel;have HOK:=mh hok;have hs:=sum_pre hk h16 hok;clear hok
   by_cases hlt:k<xs.length
   ·obtain⟨b,off,x,rfl,hbl,hcell,hx⟩:=HIZ.out.get hlt
    by_cases hmx:En.money x=true
    ·have mx:=En.money_iff.1 hmx
     have hst:=mh (sum_take_succ hlt);have hok' : ∀j,j<k+1→En.money (xs.getD j 0)=true:=fun j hj=>by
      by_cases e:j=k
      ·rw[e,hx.out];exact hmx
      ·exact HOK.out j (by omega)
     have HOK' := mh hok'; clear hok'
     go_wp2_with (first|(go_at_call 62;refine(refmoney_any _ _).mono ?_;rintro e w' ⟨rfl,rfl⟩))
     go_round
     case rel=>exact⟨k+1,by omega,by go_num,by rw[hst.out,hx.out],HOK'.out⟩
     case measure=>simp[intOf];omega
    ·have hm' : En.money x=false:=by simpa using hmx
     have he:=sumErr_odd hlt hx.out hm'; have hef:=HE.out.trans he;have HEF:=mh (And.intro hef (farm_bad hef (by decide)));clear he hef hmx
     go_wp2_with (first|(go_at_call 62;refine(refmoney_any _ _).mono ?_;rintro e w' ⟨rfl,rfl⟩))
     go_ret2
     exact⟨none,0,by rw[HEF.out.1,HEF.out.2];rfl,by rw[HEF.out.2];exact Ints.nil _ _,HB.out,fun _ h=>by cases h⟩
   ·obtain rfl:k=xs.length:=by omega
    obtain⟨h1,h2⟩:=sumErr_of HOK.out;rw[List.take_length]at hs;rw[List.take_length]
    cases hmS:En.money (Sh.sum xs)
    ·have hef:=HE.out.trans (h2 hmS)
     have HEF:=mh (And.intro hef (farm_bad hef (by decide)));clear h1 h2 hef hlt hk
     go_wp2_with (first|(go_at_call 62;refine(refmoney_any _ _).mono ?_;rintro e w' ⟨rfl,rfl⟩))
     go_ret2
     exact⟨none,0,by rw[HEF.out.1,HEF.out.2];rfl,by rw[HEF.out.2];exact Ints.nil _ _,HB.out,fun _ h=>by cases h⟩
    ·have hef:=HE.out.trans (h1 hmS)
     have hF:=Ce.fine_of hef;have F:=mh hF;have hre:Ce.redErr D (Sh.sum xs)=0:=by unfold Ce.redErr;rw[if_neg (by rw[C.out.1];simp),if_neg (by rw[hmS];simp)]
     have hr:=fun (W:World) (h:Pairs W p D)=>refReduced_any p D cap (Sh.sum xs) W h
     rw[hre,show Ce.redVal D (Sh.sum xs)=Ce.red D (Sh.sum xs) by unfold Ce.redVal;rw[if_neg (by rw[hre];simp)]]at hr;have HR:=mh hr;have hleft:Ce.farmLeft D m xs=min (Ce.red D (Sh.sum xs)) m:=Int.min_comm _ _
     by_cases heq:Ce.farmLeft D m xs=Sh.sum xs
     ·have HS:=mh (And.intro hef (hF.same heq))
      rw[hleft]at heq;have hbq:(Sh.sum xs==Sh.sum xs)=true:=by simp
      obtain⟨i0,hi,hz0,hz1,hz2⟩:=info_parts info_int;have HIN:=mh (And.intro hi (And.intro hz0 (And.intro hz1 hz2)));clear hr hF hleft hi hz0 hz1 hz2 hre hef h1 h2 hlt hk
      go_wp2_with (first|(go_at_call 62;refine(refmoney_any _ _).mono ?_;rintro e w' ⟨rfl,rfl⟩)|(go_at_call 110;refine(HR.out _ HPZ.out).mono ?_;rintro e w2 ⟨rfl,n2,rfl⟩)|(at_builtin;(refine Own.copyOf HIN.out.1 HIN.out.2.1 HIN.out.2.2.1 HIN.out.2.2.2 Tryz.underlying22 rfl (.const (.slice none 0 0)) (.tmp 60) rfl xs q capx (HIZ.out.below (drewN_below _ n2)) rfl rfl (by omega) ?_);intro v3 w3 hown3 hb3))
      obtain⟨p3,c3,rfl,hI3,hn3⟩:=hown3.intsN
      go_ret2
      exact⟨p3,c3,by rw[HS.out.1,HS.out.2];rfl,by rw[HS.out.2];exact hI3,bnext (bnext HB.out HB.out.size (drewN_below _ n2)) HB.out.size hb3,fun a h=>Nat.le_trans HB.out.size (hn3 a h)⟩
     ·have hfa:Ce.farm D m xs=shList (Ce.farmLeft D m xs) xs:=by unfold Ce.farm;rw[if_neg (by rw[hF.err];simp),if_neg heq]
      have hsh:=fun (W:World) (h:Ints W q xs)=>refshares_new (Ce.farmLeft D m xs) q xs capx W h
      rw[hF.shErr]at hsh;rw[hleft]at heq hsh hfa;have HS:=mh (And.intro hef hfa);have hbq:(min (Ce.red D (Sh.sum xs)) m==Sh.sum xs)=false:=by simpa using heq
      have HSH:=mh hsh;clear hr hF hleft hfa hsh heq hre hef h1 h2 hlt hk
      go_wp2_with (first|(go_at_call 62;refine(refmoney_any _ _).mono ?_;rintro e w' ⟨rfl,rfl⟩)|(go_at_call 110;refine(HR.out _ HPZ.out).mono ?_;rintro e w2 ⟨rfl,n2,rfl⟩)|(go_at_call 105;refine(HSH.out _ (HIZ.out.below (drewN_below _ n2))).mono ?_;rintro e w3 ⟨p3,c3,rfl,hI3,hb3,hn3⟩))
      go_ret2
      exact⟨p3,c3,by rw[HS.out.1,HS.out.2];rfl,by rw[HS.out.2];exact hI3,bnext (bnext HB.out HB.out.size (drewN_below _ n2)) HB.out.size hb3,fun a h=>Nat.le_trans HB.out.size (hn3 a h)⟩
end Go.Proofs.YtljibgchickcpaaGreatDoor
