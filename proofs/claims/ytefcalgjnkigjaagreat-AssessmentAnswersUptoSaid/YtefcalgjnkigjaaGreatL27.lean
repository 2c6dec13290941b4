/- Packed. -/
import Derived.Test.YtefcalgjnkigjaaGreatL26
set_option maxRecDepth 100000
set_option maxHeartbeats 4000000
open Go.Value renaming int → I
open Go.IntKind renaming i64 → O
namespace Go.Proofs.YtefcalgjnkigjaaGreat
open Go.RowKit
theorem xCA:(Tryz.prog.info? 4).map (fun i=>(i.zero,i.size,i.bytes))=some (some (.bool false),1,1):=by kernel_rfl
theorem zJA (n:Nat)(hn:n≤35184372088832)(w:World) :
  (Instr.makeSlice 177 (I O (n:Int)) (I O (n:Int))).run Tryz.prog w = .ok (.slice (some ⟨w.heap.size,0,none⟩) n n) (w.alloc (.cells (madeCells #[.bool false] n) 4)):=by
 obtain⟨i0,hi,hz0,hz1,hz2⟩:=info_parts xCA;have hr:=run_make (P:=Tryz.prog) w 177 4 i0 (.bool false) Tryz.underlying177 hi hz0 .i64 .i64 n n (by omega) (Int.le_refl _) (by rw[hz2];omega) (by omega);simp only[Int.toNat_natCast,hz1,Nat.mul_one]at hr;exact hr
structure R3 (w wr:World) (B ob rb n k:Nat) (q r:Nat→Int):Prop where
 below:Below B w wr
 out:Row wr ob n fun j=>I O (if j<k then q j else 0)
 rst:Row wr rb n fun j=>I O (if j<k then r j else 0)
 ho:B≤ob
 hr:B≤rb
 hne:ob≠rb
theorem R3.places {w wr w1:World}{B ob rb n k:Nat}{q r:Nat→Int}(h:R3 w wr B ob rb n k q r)(hk:k<n)(hb:Below wr.heap.size wr w1) :
  (w1.cell? ⟨ob,k,none⟩=some (I O 0)∧w1.frozen? ⟨ob,k,none⟩=false)∧(w1.cell? ⟨rb,k,none⟩=some (I O 0)∧w1.frozen? ⟨rb,k,none⟩=false):=by
 have a:=(h.out.below hb).2 k hk;have c:=(h.rst.below hb).2 k hk;simp only[Nat.lt_irrefl,if_false]at a c;exact⟨a,c⟩
theorem gAA {k:Nat}(f:Nat→Int)(j:Nat):(if j=k then Value.int .i64 (f k) else I O (if j<k then f j else 0))=I O (if j<k+1 then f j else 0):=by
 by_cases e:j=k
 ·subst e;simp
 ·rw[if_neg e];congr 1;by_cases hj:j<k
  ·rw[if_pos hj,if_pos (by omega)]
  ·rw[if_neg hj,if_neg (by omega)]
theorem R3.next {w wr w1:World}{B ob rb n k:Nat}{q r:Nat→Int}(h:R3 w wr B ob rb n k q r)(hk:k<n)(hb:Below wr.heap.size wr w1)(hB:B≤wr.heap.size) :
  R3 w ((w1.setCell ⟨ob,k,none⟩ (I O (q k))).setCell ⟨rb,k,none⟩ (I O (r k))) B ob rb n (k+1) q r :=
 ⟨((qH h.below hB hb).setCell h.ho _).setCell h.hr _,(((h.out.below hb).set hk _).other h.hne.symm _).congr fun j _=>gAA q j,(((h.rst.below hb).other h.hne _).set hk _).congr fun j _=>gAA r j,h.ho,h.hr,h.hne⟩
theorem R3.start (w:World)(n:Nat)(q r:Nat→Int):R3 w (((w.alloc (.cells (madeCells #[I O 0] n) 3)).alloc (.cells (madeCells #[I O 0] n) 3)).drew) w.heap.size w.heap.size (w.heap.size+1) n 0 q r:=by
 have z:∀(f:Nat→Int) (wr:World) (b:Nat),Row wr b n (fun _=>I O 0)→Row wr b n fun j=>I O (if j<0 then f j else 0):=fun f wr b h=>h.congr fun j _=>by simp
 refine⟨by go_grown,z _ _ _ (((Row.made w n _ _).alloc _).drew),z _ _ _ ?_,Nat.le_refl _,by omega,by omega⟩
 have:=Row.made (w.alloc (.cells (madeCells #[I O 0] n) 3)) n 3 (I O 0);rw[World.size_alloc]at this;exact this.drew
theorem R3.turn {w wr:World}{B ob rb n:Nat}{q r q' r' : Nat→Int}(h:R3 w wr B ob rb n 0 q r):R3 w wr B rb ob n 0 q' r' :=
 ⟨h.below,h.rst.congr fun j _=>by simp,h.out.congr fun j _=>by simp,h.hr,h.ho,h.hne.symm⟩
structure R4 (w wr:World) (B ob rb gb n k:Nat) (t:Int) (zs:List Int):Prop where
 below:Below B w wr
 out:Row wr ob n fun j=>I O (Sh.quo t zs j+if Sh.top n (Sh.rest t zs) k j=true then 1 else 0)
 rst:Row wr rb n fun j=>I O (Sh.rest t zs j)
 gvn:Row wr gb n fun j => .bool (Sh.top n (Sh.rest t zs) k j)
 ho:B≤ob
 hg:B≤gb
 h1:ob≠rb
 h2:ob≠gb
 h3:rb≠gb
theorem R4.drewN {w wr:World}{B ob rb gb n k:Nat}{t:Int}{zs:List Int}(h:R4 w wr B ob rb gb n k t zs)(m:Nat):R4 w (wr.drewN m) B ob rb gb n k t zs :=
 ⟨h.below.trans ⟨rfl,rfl,rfl,Nat.le_refl _,fun _ _=>rfl⟩,h.out,h.rst,h.gvn,h.ho,h.hg,h.h1,h.h2,h.h3⟩
theorem R4.next {w wr:World}{B ob rb gb n k i:Nat}{t:Int}{zs:List Int}(h:R4 w wr B ob rb gb n k t zs)(hk:k<n)(hi:(Sh.order n (Sh.rest t zs)).getD k 0=i) :
  i<n∧wr.cell? ⟨ob,i,none⟩=some (I O (Sh.quo t zs i))∧wr.frozen? ⟨ob,i,none⟩=false∧wr.cell? ⟨gb,i,none⟩=some (.bool false)∧wr.frozen? ⟨gb,i,none⟩=false ∧
  R4 w ((wr.setCell ⟨gb,i,none⟩ (.bool true)).setCell ⟨ob,i,none⟩ (I O (Sh.quo t zs i+1))) B ob rb gb n (k+1) t zs:=by
 have hkl:k<(Sh.order n (Sh.rest t zs)).length:=by rw[Sh.order_len];exact hk
 have e:(Sh.order n (Sh.rest t zs))[k]=i:=by rw[← hi,List.getD_eq_getElem?_getD,List.getElem?_eq_getElem hkl];rfl
 have hin:i<n:=by rw[← e];exact(Sh.order_mem n _ _).1 (List.getElem_mem hkl)
 have ht:Sh.top n (Sh.rest t zs) k i=false:=by rw[← e];exact Sh.top_at hkl
 have c:=h.out.2 i hin;have d:=h.gvn.2 i hin;simp only[ht,Bool.false_eq_true,if_false,Int.add_zero]at c d;refine⟨hin,c.1,c.2,d.1,d.2,(h.below.setCell h.hg _).setCell h.ho _,((h.out.other h.h2.symm _).set hin _).congr fun j _=>?_,(h.rst.other h.h3.symm _).other h.h1 _,((h.gvn.set hin _).other h.h2 _).congr fun j _=>?_,h.ho,h.hg,h.h1,h.h2,h.h3⟩
 ·rw[Sh.top_succ hkl,e]
  by_cases hj:j=i
  ·subst hj
   rw[if_pos rfl]
   simp
  ·rw[if_neg hj]
   simp[hj]
 ·rw[Sh.top_succ hkl,e]
  by_cases hj:j=i
  ·subst hj
   rw[if_pos rfl]
   simp
  ·rw[if_neg hj]
   simp[hj]
theorem tK {t:Int}{zs:List Int}(h:Sh.Right t zs)(k:Nat):¬Sh.sum zs≤t*zs.getD k 0 / 18446744073709551616:=by
 have w1:=h.w1 k;have hp:=h.pos;have h1:t*zs.getD k 0≤t*Sh.sum zs:=Int.mul_le_mul_of_nonneg_left w1 h.ht;have h2:t*Sh.sum zs≤1099511627776*Sh.sum zs:=Int.mul_le_mul_of_nonneg_right h.ht' (by omega);omega
theorem gRA {t:Int}{zs:List Int}(h:Sh.Right t zs)(k:Nat):rq t (zs.getD k 0) (Sh.sum zs)=Sh.quo t zs k:=by
 unfold rq;rw[if_neg (tK h k)];have h1:=h.quo1 k;have h0:=h.quo0 k;have ht:=h.ht'; unfold Sh.quo at *;exact IntWalk.wrap64_in _ ⟨by omega,by omega⟩
theorem gLA {t:Int}{zs:List Int}(h:Sh.Right t zs)(k:Nat):rr t (zs.getD k 0) (Sh.sum zs)=Sh.rest t zs k:=by
 unfold rr;rw[if_neg (tK h k)]
 rfl
def fN (t:Int) (zs:List Int):List Int:=if Sh.sum zs=0 then List.replicate zs.length 0 else Sh.shares t zs
theorem cS (t:Int)(p:Option Addr)(zs:List Int)(cap:Nat)(w:World)(h:qR w p zs)(h1:zs.length≤64)(h2:Sh.limited t=true)(h3:(zs.any fun x => !Sh.limited x)=false) :
  Calls Tryz.prog 98 #[I O t,.slice p zs.length cap] w (zK w (fN t zs) 0):=by
 have hl:=h.len;have H:=mh h;have hm:=dA zs.length (by omega);have hmb:=zJA zs.length (by omega);have hsum:=hU h1 h3;have HS:=mh hsum;obtain⟨t0,t1⟩:=Sh.limited_iff.1 h2;have hx:∀k,k<zs.length→0≤zs.getD k 0∧zs.getD k 0≤1099511627776:=fun k hk=>by
  rw[List.getD_eq_getElem?_getD,List.getElem?_eq_getElem hk]
  apply Sh.limited_iff.1
  rw[List.any_eq_false]at h3
  simpa using h3 _ (List.getElem_mem hk)
 have HX:=mh hx;have H23:=mh (And.intro h2 h3);clear h hsum hx h2 h3
 go_enter Tryz.func98,Tryz.ntmps98
 go_wp2
 go_loop [31,7] (fun i s=>∃k:Nat,k≤zs.length∧i=I O k∧s = .bool false) (fun i _=>zs.length - (intOf i).toNat)
 case atStart=>exact⟨0,Nat.zero_le _,rfl,by simp;omega⟩
 case round =>
  obtain⟨k,hk,rfl,rfl⟩:=hrel
  by_cases hlt:k<zs.length
  ·obtain⟨b,off,x,rfl,hbl,hcell,hx⟩:=H.get hlt
   obtain⟨x0,x1⟩:=HX.out k hlt;rw[hx.out]at x0 x1
   go_wp2
   go_round
   case rel=>exact⟨k+1,by omega,by go_num,by simp;omega⟩
   case measure=>simp[intOf];omega
  ·obtain rfl:k=zs.length:=by omega
   clear hlt hk
   go_wp2
   go_loop [48,6] (fun i s=>∃k:Nat,k≤zs.length∧i=I O k∧s=I O (Sh.sum (zs.take k))) (fun i _=>zs.length - (intOf i).toNat)
   case atStart=>exact⟨0,Nat.zero_le _,rfl,by simp[Sh.sum]⟩
   case round =>
    obtain⟨k,hk,rfl,rfl⟩:=hrel;have hb:=HS.out k
    by_cases hlt:k<zs.length
    ·obtain⟨b,off,x,rfl,hbl,hcell,hx⟩:=H.get hlt
     have hb1:=HS.out (k+1);rw[zG hlt,hx.out]at hb1;have hst:=mh (zG hlt)
     go_wp2
     go_round
     case rel=>exact⟨k+1,by omega,by go_num,by rw[hst.out,hx.out]⟩
     case measure=>simp[intOf];omega
    ·obtain rfl:k=zs.length:=by omega
     rw[List.take_length]at hb ⊢;clear hlt hk
     go_upto_region 17 with fail
     go_cut [12,13] (fun s12 s13 wx=>∃ob rb:Nat,s12 = .slice (some ⟨ob,0,none⟩) zs.length zs.length∧s13 = .slice (some ⟨rb,0,none⟩) zs.length zs.length∧R3 w wx w.heap.size ob rb zs.length 0 (Sh.quo t zs) (Sh.rest t zs)∧w.heap.size≤wx.heap.size)
     case first =>
      go_region
      all_goals (go_wp2_with fail;go_meet)
      ·exact⟨_,_,rfl,rfl,R3.start w zs.length _ _,by simp;omega⟩
      ·exact⟨_,_,rfl,rfl,(R3.start w zs.length (Sh.quo t zs) (Sh.rest t zs)).turn,by simp;omega⟩
     case rest =>
      obtain⟨ob,rb,rfl,rfl,hR3,hsz⟩:=hcut
      by_cases hs:Sh.sum zs=0
      ·have hsB:(Sh.sum zs==0)=true:=by rw[hs];rfl
       have hg:fN t zs=List.replicate zs.length 0:=by unfold fN;rw[if_pos hs]
       have hR:=mh hR3;have HG:=mh hg;clear hs hg hR3
       go_wp2
       go_ret2
       rw[HG.out];refine⟨some ⟨ob,0,none⟩,zs.length,by rw[List.length_replicate];rfl,?_,hR.out.below,fun a h=>by cases h;exact hR.out.ho⟩;have:=Row.ints (hR.out.out.congr (g:=fun _=>I O 0) fun j _=>by simp) (by unfold maxLen;omega)
       rwa [show(List.range zs.length).map (fun _=>(0:Int))=List.replicate zs.length 0 from by simp[List.map_const']]at this
      ·have hsB:(Sh.sum zs==0)=false:=by simpa using hs
       have hg:fN t zs=Sh.shares t zs:=by unfold fN;rw[if_neg hs]
       have hRt:=nF H23.1 H23.2 hs;have HR:=mh hRt;have HG:=mh hg;have H3:=mh hR3;have hdv:∀k W,Calls Tryz.prog 140 #[I O t,I O (zs.getD k 0),I O (Sh.sum zs)] W fun e w' => e = .returned (.tuple #[I O (Sh.quo t zs k),I O (Sh.rest t zs k),.bool (rk t (zs.getD k 0) (Sh.sum zs))])∧∃n,w' = W.drewN n:=fun k W=>by
        obtain⟨d1,d2,d3⟩:=tV hRt h1 k;have:=wP d1 W
        rwa [gRA hRt k,gLA hRt k]at this
       have HD:=mh hdv;clear hdv hg hs hR3 hRt hb
       go_wp2_with fail
       go_loopw [68,14] (fun i l wr=>∃k:Nat,k≤zs.length∧i=I O k∧l=I O (t - Sh.sum ((List.range k).map (Sh.quo t zs)))∧R3 w wr w.heap.size ob rb zs.length k (Sh.quo t zs) (Sh.rest t zs)∧w.heap.size≤wr.heap.size) (fun i _ _=>zs.length - (intOf i).toNat)
       case atStart=>exact⟨0,Nat.zero_le _,rfl,by simp[Sh.sum],H3.out,hsz⟩
       case round =>
        clear H3 hsz;obtain⟨k,hk,rfl,rfl,hL,hsz⟩:=hrel;have HL:=mh hL
        by_cases hlt:k<zs.length
        ·obtain⟨b,off,x,rfl,hbl,hcell0,hx⟩:=H.get hlt
         have hcell:wr.cell? ⟨b,off+k,none⟩=some (I O x):=(hL.below.cell (p:=⟨b,off+k,none⟩) hbl).trans hcell0;have hne:=hL.hne;have hd:=HD.out k;rw[hx.out]at hd;have Hd:=mh hd;clear hL hcell0 hd;have hk0:(0:Int)≤(k:Int):=inn _;have hk1:(k:Int)<(zs.length:Int):=by omega
         have hq:=HR.quo_bd k;have hQ:=HR.quo_sum k
         go_wp2_with (first|(go_at_call 140;refine(Hd _).mono ?_;rintro e w1 ⟨rfl,m,rfl⟩;have hb1:=qQ wr m;obtain⟨⟨a1,a2⟩,⟨c1,c2⟩⟩:=HL.places hlt hb1))
         go_roundw
         case rel=>exact⟨k+1,by omega,by go_num,by rw[Sh.quo_succ];congr 1;omega,HL.next hlt hb1 hsz,by simpa [World.setCell,World.drewN] using hsz⟩
         case measure=>simp[intOf];omega
        ·obtain rfl:k=zs.length:=by omega
         clear hlt hk HD;obtain⟨e1, -⟩:=HR.left_eq;have hll:=HR.left_lt;rw[← e1];clear e1;have h4s:R4 w (wr.alloc (.cells (madeCells #[.bool false] zs.length) 4)) w.heap.size ob rb wr.heap.size zs.length 0 t zs:=by
          refine⟨hL.below.alloc hsz _,(hL.out.congr fun j hj=>?_).alloc _,(hL.rst.congr fun j hj=>?_).alloc _,(Row.made wr zs.length _ _).congr fun j _=>by rw[Sh.top_zero],hL.ho,hsz,hL.hne,Nat.ne_of_lt hL.out.1,Nat.ne_of_lt hL.rst.1⟩
          ·rw[if_pos hj,Sh.top_zero];simp
          ·rw[if_pos hj]
         have H4:=mh h4s;clear h4s hL HL;have hnl:=HR.len
         go_wp2_with fail
         generalize wr.alloc (.cells (madeCells #[.bool false] zs.length) 4)=w4 at *;generalize wr.heap.size=gb at *
         go_loopw [14] (fun l wr' => ∃k:Nat,k≤Sh.left t zs∧l=I O ((Sh.left t zs:Int) - k)∧R4 w wr' w.heap.size ob rb gb zs.length k t zs) (fun l _=>(intOf l).toNat)
         case atStart=>exact⟨0,Nat.zero_le _,by simp,H4.out⟩
         case round =>
          clear H4;obtain⟨w5,rfl⟩:∃w5:World,w5=wr:=⟨_,rfl⟩;obtain⟨k,hk,rfl,hL⟩:=hrel
          by_cases hkl:k<Sh.left t zs
          ·have HL:=mh hL
           clear hL
           go_wp2_with fail
           go_loopw [18,103] (fun b i wx=>∃(j:Nat) (bi:Int),j≤zs.length∧i=I O j∧b=I O bi∧Sh.Best zs.length (Sh.rest t zs) k j bi∧∃m,wx=w5.drewN m) (fun _ i _=>zs.length - (intOf i).toNat)
           case atStart=>exact⟨0, -1,Nat.zero_le _,rfl,rfl,Sh.best_zero,0,rfl⟩
           case round =>
            obtain⟨j,bi,hj,rfl,rfl,hbst,m,rfl⟩:=hrel;have HB:=mh hbst
            by_cases hjl:j<zs.length
            ·have hj0:(0:Int)≤(j:Int):=inn _
             have hj1:(j:Int)<(zs.length:Int):=by omega
             have cg:w5.cell? ⟨gb,j,none⟩=some (.bool (Sh.top zs.length (Sh.rest t zs) k j)):=(HL.gvn.2 j hjl).1;have cr:w5.cell? ⟨rb,j,none⟩=some (I O (Sh.rest t zs j)):=(HL.rst.2 j hjl).1
             rcases Bool.eq_false_or_eq_true (Sh.top zs.length (Sh.rest t zs) k j) with ht|ht
             ·rw[ht]at cg
              have HT:=mh ht;clear ht hbst
              go_wp2_with fail
              go_quiet (fail)
              go_wp2
              go_roundw
              case rel=>exact⟨j+1,bi,by omega,by go_num,rfl,Sh.best_skip HB HT.out,_,rfl⟩
              case measure=>simp[intOf];omega
             ·rw[ht]at cg
              have HT:=mh ht
              rcases Sh.best_range hbst with hneg|⟨mm,hmm,hml⟩
              ·subst hneg
               clear ht hbst
               go_wp2_with fail
               go_quiet (fail)
               go_wp2
               go_roundw
               case rel=>exact⟨j+1,j,by omega,by go_num,rfl,Sh.best_first HB (by omega) HT.out,_,rfl⟩
               case measure=>simp[intOf];omega
              ·subst hmm
               have cm:w5.cell? ⟨rb,mm,none⟩=some (I O (Sh.rest t zs mm)):=(HL.rst.2 mm (by omega)).1;have hm0:(0:Int)≤(mm:Int):=inn _;have hm1:(mm:Int)<(zs.length:Int):=by omega
               have hm2:decide ((mm:Int)<0)=false:=dqf (by omega)
               by_cases hr:Sh.rest t zs mm<Sh.rest t zs j
               ·have HQ:=mh (Sh.best_more HB hm0 HT (by rw[Int.toNat_natCast];exact hr))
                clear ht hbst
                go_wp2_with fail
                go_quiet (fail)
                go_wp2
                go_roundw
                case rel=>exact⟨j+1,j,by omega,by go_num,rfl,HQ.out,_,rfl⟩
                case measure=>simp[intOf];omega
               ·have HQ:=mh (Sh.best_keep HB hm0 HT (by rw[Int.toNat_natCast];exact hr))
                clear ht hbst
                go_wp2_with fail
                go_quiet (fail)
                go_wp2
                go_roundw
                case rel=>exact⟨j+1,mm,by omega,by go_num,rfl,HQ.out,_,rfl⟩
                case measure=>simp[intOf];omega
            ·obtain rfl:j=zs.length:=by omega
             have hbe:=Sh.best_end hbst (by omega);obtain⟨i,hi⟩:∃i,(Sh.order zs.length (Sh.rest t zs)).getD k 0=i:=⟨_,rfl⟩;rw[hi]at hbe;subst hbe;obtain⟨n1,n2,n3,n4,n5,n6⟩:=(HL.drewN m).next (by omega) hi;have N6:=mh n6;have hq:=HR.quo_bd i;have hi0:(0:Int)≤(i:Int):=inn _;have hi1:(i:Int)<(zs.length:Int):=by omega
             have hne:=HL.h2;clear hbst HB n6 hi hjl hj
             go_wp2
             go_roundw
             case rel=>exact⟨k+1,by omega,by congr 1;omega,N6.out⟩
             case measure=>simp[intOf];omega
          ·obtain rfl:k=Sh.left t zs:=by omega
           have HL:=mh hL;clear hL hkl hk
           go_wp2
           go_ret2
           rw[HG.out];refine⟨some ⟨ob,0,none⟩,zs.length,by simp[Sh.shares],HL.out.out.ints (by unfold maxLen;omega),HL.below,fun a h=>by cases h;exact HL.ho⟩
theorem pW {zs:List Int}{k:Nat}(hk:k<zs.length):((zs.take (k+1)).any fun x => !Sh.limited x)=((zs.take k).any (fun x => !Sh.limited x) || !Sh.limited (zs.getD k 0)):=by
 rw[tsg hk,List.any_append,List.getD_eq_getElem?_getD,List.getElem?_eq_getElem hk]
 simp
theorem sQ (t:Int)(p:Option Addr)(zs:List Int)(cap:Nat)(w:World)(h:qR w p zs)(hb:64<zs.length∨Sh.limited t=false∨(zs.any fun x => !Sh.limited x)=true) :
  Calls Tryz.prog 98 #[I O t,.slice p zs.length cap] w fun e w' => e = .returned (.tuple #[.slice none 0 0,I O (if 64<zs.length then 1 else 2)])∧Below w.heap.size w w' :=by
 have hl:=h.len;have H:=mh h;clear h
 by_cases h1:64<zs.length
 ·rw[if_pos h1]
  clear hb
  go_enter Tryz.func98,Tryz.ntmps98
  go_wp2
  go_ret2
  exact⟨rfl,brf _ _⟩
 ·rw[if_neg h1]
  by_cases h2:Sh.limited t=false
  ·have ht:t<0∨1099511627776<t:=by
    apply Classical.byContradiction
    intro hn;rw[Sh.limited_iff.2 ⟨by omega,by omega⟩]at h2
    cases h2
   clear hb h2
   rcases (show t<0∨(0≤t∧1099511627776<t) by omega) with h4|⟨h4,h5⟩
   ·clear ht
    go_enter Tryz.func98,Tryz.ntmps98
    go_wp2
    go_loop [31,7] (fun i s=>∃k:Nat,k≤zs.length∧i=I O k∧s = .bool true) (fun i _=>zs.length - (intOf i).toNat)
    case atStart=>exact⟨0,Nat.zero_le _,rfl,by first|rfl|(simp;done)|(simp;omega)⟩
    case round =>
     obtain⟨k,hk,rfl,rfl⟩:=hrel
     by_cases hlt:k<zs.length
     ·obtain⟨b,off,x,rfl,hbl,hcell,hx⟩:=H.get hlt
      go_wp2
      go_round
      case rel=>exact⟨k+1,by omega,by go_num,by first|rfl|simp⟩
      case measure=>simp[intOf];omega
     ·obtain rfl:k=zs.length:=by omega
      clear hlt hk
      go_wp2
      go_ret2
      exact⟨rfl,brf _ _⟩
   ·clear ht
    go_enter Tryz.func98,Tryz.ntmps98
    go_wp2
    go_loop [31,7] (fun i s=>∃k:Nat,k≤zs.length∧i=I O k∧s = .bool true) (fun i _=>zs.length - (intOf i).toNat)
    case atStart=>exact⟨0,Nat.zero_le _,rfl,by first|rfl|(simp;done)|(simp;omega)⟩
    case round =>
     obtain⟨k,hk,rfl,rfl⟩:=hrel
     by_cases hlt:k<zs.length
     ·obtain⟨b,off,x,rfl,hbl,hcell,hx⟩:=H.get hlt
      go_wp2
      go_round
      case rel=>exact⟨k+1,by omega,by go_num,by first|rfl|simp⟩
      case measure=>simp[intOf];omega
     ·obtain rfl:k=zs.length:=by omega
      clear hlt hk
      go_wp2
      go_ret2
      exact⟨rfl,brf _ _⟩
  ·replace h2:Sh.limited t=true:=by simpa using h2
   have h3:(zs.any fun x => !Sh.limited x)=true:=by
    rcases hb with h|h|h
    ·exact absurd h h1
    ·rw[h2]at h;cases h
    ·exact h
   obtain⟨t0,t1⟩:=Sh.limited_iff.1 h2;have H3:=mh h3;clear hb h2 h3
   go_enter Tryz.func98,Tryz.ntmps98
   go_wp2
   go_loop [31,7] (fun i s=>∃(k:Nat) (c:Bool),k≤zs.length∧i=I O k∧s = .bool c∧Hid (((zs.take k).any fun x => !Sh.limited x)=c)) (fun i _=>zs.length - (intOf i).toNat)
   case atStart=>exact⟨0,false,Nat.zero_le _,rfl,by first|rfl|(simp;done)|(simp;omega),rfl⟩
   case round =>
    obtain⟨k,c,hk,rfl,rfl,hc⟩:=hrel
    by_cases hlt:k<zs.length
    ·obtain⟨b,off,x,rfl,hbl,hcell,hx⟩:=H.get hlt
     have hs:=mh (pW hlt)
     cases c with
     | true =>
       go_wp2
       go_round
       case rel=>exact⟨k+1,true,by omega,by go_num,by first|rfl|simp,by show _=_;rw[hs.out,hc.out];rfl⟩
       case measure=>simp[intOf];omega
     | false =>
       have hd:Hid ((!Sh.limited x)=(decide (x<0)||decide (1099511627776<x))):=by
        show(!Sh.limited x)=_
        unfold Sh.limited;rw[Bool.eq_iff_iff];first|(simp;done)|(simp;omega)
       go_wp2
       all_goals
        go_round
        case rel=>exact⟨k+1,_,by omega,by go_num,rfl,by show _=_;rw[hs.out,hc.out,hx.out,hd.out];first|rfl|(simp;done)|(simp;omega)⟩
        case measure=>simp[intOf];omega
    ·obtain rfl:k=zs.length:=by omega
     have hct:c=true:=by rw[← hc.out,List.take_length,H3.out]
     subst hct;clear hlt hk hc
     go_wp2
     go_ret2
     exact⟨rfl,brf _ _⟩
theorem wS (t:Int)(p:Option Addr)(zs:List Int)(cap:Nat)(w:World)(h:qR w p zs) :
  Calls Tryz.prog 98 #[I O t,.slice p zs.length cap] w (zK w (jD t zs) (shErr t zs)):=by
 by_cases hb:64<zs.length∨Sh.limited t=false∨(zs.any fun x => !Sh.limited x)=true
 ·refine(sQ t p zs cap w h hb).mono fun e w' ⟨he,hw⟩=>?_
  have e1:shErr t zs=if 64<zs.length then 1 else 2:=by
   unfold shErr
   by_cases h1:64<zs.length
   ·rw[if_pos h1,if_pos h1]
   ·rw[if_neg h1,if_neg h1,if_pos (hb.resolve_left h1)]
  have e2:jD t zs = []:=by unfold jD;rw[if_pos];rw[e1];split<;>decide
  rw[e1,e2];exact⟨none,0,he,qR.nil _ _,hw,fun _ h=>by cases h⟩
 ·have h1:zs.length≤64:=by omega
  have h2:Sh.limited t=true:=by
   have:¬Sh.limited t=false:=fun h=>hb (.inr (.inl h))
   simpa using this
  have h3:(zs.any fun x => !Sh.limited x)=false:=Bool.eq_false_iff.2 fun h=>hb (.inr (.inr h))
  have e1:shErr t zs=0:=by unfold shErr;rw[if_neg (by omega),if_neg (by rw[h2,h3];simp)]
  have e2:jD t zs=fN t zs:=by unfold jD fN;rw[e1,if_neg (by simp)]
  rw[e1,e2];exact cS t p zs cap w h h1 h2 h3
theorem pE (t:Int)(p:Option Addr)(zs:List Int)(cap:Nat)(w:World)(h:qR w p zs) :
  Calls Tryz.prog 98 #[I O t,.slice p zs.length cap] w (kE w (jD t zs) (shErr t zs)):=(wS t p zs cap w h).mono fun _ _ h=>h.ints
theorem cY (p:Option Addr)(D:List (Int × Int))(cap:Nat)(a:Int)(w:World)(h:jF w p D) :
  Calls Tryz.prog 105 #[.slice p D.length cap,I O a] w fun e w' => e = .returned (.tuple #[I O (Ce.redVal D a),I O (Ce.redErr D a)])∧∃n,w' = w.drewN n:=by
 have hc:=gP p D cap w h
 by_cases h1:Ce.Right D
 ·rw[Ce.chk_zero.2 h1]at hc
  by_cases h2:En.money a=true
  ·obtain⟨a0,a1⟩:=En.money_iff.1 h2
   have he:Ce.redErr D a=0:=by unfold Ce.redErr;rw[if_neg (by rw[Ce.chk_zero.2 h1];simp),if_neg (by rw[h2];simp)]
   have hv:Ce.redVal D a=Ce.red D a:=by unfold Ce.redVal;rw[if_neg (by rw[he];simp)]
   rw[he,hv];have HC:=mh hc;have H:=mh h;have R:=mh h1;have h6:=h1.len;clear hc h he hv h1
   go_enter Tryz.func105,Tryz.ntmps105
   go_wp2_with (first|(go_at_call 55;refine(HC).mono ?_;rintro e w1 ⟨rfl,n0,rfl⟩)|(go_at_call 56;refine(qL _ _).mono ?_;rintro e w' ⟨rfl,rfl⟩))
   go_loopw [8,7] (fun i o wr=>∃k n:Nat,k≤D.length∧i=I O k∧o=I O (a - Ce.cuts D a k)∧wr=w.drewN n) (fun i _ _=>D.length - (intOf i).toNat)
   case atStart=>exact⟨0,n0,Nat.zero_le _,rfl,by simp[Ce.cuts],rfl⟩
   case round =>
    obtain⟨k,n,hk,rfl,rfl,hwr⟩:=hrel;have HW:=mh hwr;have hcells:∀a,wr.cell? a=w.cell? a:=fun a=>by rw[hwr];rfl
    have HCE:=mh hcells;clear hwr hcells;have hp:=R.red_part a0 a1 hk
    by_cases hlt:k<D.length
    ·obtain⟨b,off,x,y,rfl,hbl,hx0,hy0,hxy⟩:=H.get hlt
     rw[← HCE.out]at hx0 hy0;obtain⟨f1,f2,f3,f4,f5,f6⟩:=sP R hlt hxy.out a0 a1;have hp2:=R.red_part (k:=k+1) a0 a1 (by omega);have hcs:Ce.cuts D a (k+1)=Ce.cuts D a k+Ce.cut D a k:=rfl;rw[hcs]at hp2;have CS:=mh hcs;have hk0:(0:Int)≤(k:Int):=inn _;have hk1:(k:Int)<(D.length:Int):=by omega
     have f5' := f5.symm;have hz:0≤Ce.span D a k∧(Ce.span D a k=0→Ce.cut D a k=0):=⟨f3.1,fun e=>by rw[f5,e,Int.zero_mul];decide⟩;clear f5
     by_cases hlt2:k+1<D.length
     ·obtain⟨b', off', x2,y2,e, -,hx2,hy2,hxy2⟩:=H.get hlt2
      rw[← HCE.out]at hx2 hy2;simp only[Option.some.injEq,Addr.mk.injEq]at e;obtain⟨rfl,rfl, -⟩:=e;have ht:Ce.till D a k=min a x2:=by unfold Ce.till;rw[if_pos hlt2,lE hxy2.out]
      have hfr2:=R.fr0 hlt2;rw[lE hxy2.out]at hfr2;rw[ht]at f6;clear ht hcs hy2
      by_cases hgt:x<min a x2
      ·have hS:min a x2 - x=Ce.span D a k:=by omega
       generalize Ce.span D a k=S at *;have hmw:IntKind.i64.wrap (S*y)=S*y:=by
        generalize S*y=q at f4 ⊢;rw[IntKind.wrap_i64];omega
       generalize Ce.cut D a k=C at *;generalize Ce.cuts D a k=Q at *;have hsw:IntKind.i64.wrap (a - Q - C)=a - Q - C:=by rw[IntKind.wrap_i64];omega
       clear f6 hz
       go_wp2_with fail
       go_quiet ((go_at_call 153;exact Calls.quiet_of_same (Calls.turn (tJ _ _ _))))
       go_wp2
       go_roundw
       case rel=>exact⟨k+1,_,by omega,by go_num,by rw[CS.out];congr 1;omega,by rw[HW.out];exact qE _ _ _⟩
       case measure=>simp[intOf];omega
      ·have hC:Ce.cut D a k=0:=hz.2 (by omega)
       clear f6 hz f5' f4 f3
       go_wp2
       go_roundw
       case rel=>exact⟨k+1,n,by omega,by go_num,by rw[CS.out,hC];congr 1;omega,HW.out⟩
       case measure=>simp[intOf];omega
     ·have ht:Ce.till D a k=a:=by unfold Ce.till;rw[if_neg hlt2]
      rw[ht]at f6;clear ht hcs
      by_cases hgt:x<a
      ·have hS:a - x=Ce.span D a k:=by omega
       generalize Ce.span D a k=S at *;have hmw:IntKind.i64.wrap (S*y)=S*y:=by
        generalize S*y=q at f4 ⊢;rw[IntKind.wrap_i64];omega
       generalize Ce.cut D a k=C at *;generalize Ce.cuts D a k=Q at *;have hsw:IntKind.i64.wrap (a - Q - C)=a - Q - C:=by rw[IntKind.wrap_i64];omega
       clear f6 hz
       go_wp2_with fail
       go_quiet ((go_at_call 153;exact Calls.quiet_of_same (Calls.turn (tJ _ _ _))))
       go_wp2
       go_roundw
       case rel=>exact⟨k+1,_,by omega,by go_num,by rw[CS.out];congr 1;omega,by rw[HW.out];exact qE _ _ _⟩
       case measure=>simp[intOf];omega
      ·have hC:Ce.cut D a k=0:=hz.2 (by omega)
       clear f6 hz f5' f4 f3
       go_wp2
       go_roundw
       case rel=>exact⟨k+1,n,by omega,by go_num,by rw[CS.out,hC];congr 1;omega,HW.out⟩
       case measure=>simp[intOf];omega
    ·obtain rfl:k=D.length:=by omega
     clear hlt hk
     go_wp2
     go_ret2
     exact⟨rfl,n,HW.out⟩
  ·have h3:En.money a=false:=by simpa using h2
   have he:Ce.redErr D a=67:=by unfold Ce.redErr;rw[if_neg (by rw[Ce.chk_zero.2 h1];simp),if_pos h3]
   have hv:Ce.redVal D a=0:=by unfold Ce.redVal;rw[if_pos (by rw[he];decide)]
   rw[he,hv];have HC:=mh hc;clear hc h he hv h2
   go_enter Tryz.func105,Tryz.ntmps105
   go_wp2_with (first|(go_at_call 55;refine(HC).mono ?_;rintro e w1 ⟨rfl,n0,rfl⟩)|(go_at_call 56;refine(qL _ _).mono ?_;rintro e w' ⟨rfl,rfl⟩))
   go_ret2
   exact⟨rfl,n0,rfl⟩
 ·rw[Ce.chk_not h1]at hc
  have he:Ce.redErr D a=66:=by unfold Ce.redErr;rw[if_pos (by rw[Ce.chk_not h1];decide)]
  have hv:Ce.redVal D a=0:=by unfold Ce.redVal;rw[if_pos (by rw[he];decide)]
  rw[he,hv];have HC:=mh hc;clear hc h he hv h1
  go_enter Tryz.func105,Tryz.ntmps105
  go_wp2_with (first|(go_at_call 55;refine(HC).mono ?_;rintro e w1 ⟨rfl,n0,rfl⟩))
  go_ret2
  exact⟨rfl,n0,rfl⟩
def gR (xs:List Int):Int:=if Ce.sumErr xs=0 then Sh.sum xs else 0
theorem pQ {xs:List Int}{k:Nat}(hk:k<xs.length){x:Int}(hx:xs.getD k 0=x)(h:En.money x=false):Ce.sumErr xs=67:=by
 unfold Ce.sumErr;rw[if_pos]
 left
 rw[List.any_eq_true];refine⟨x,?_,by rw[h];rfl⟩;rw[← hx,List.getD_eq_getElem?_getD,List.getElem?_eq_getElem hk];exact List.getElem_mem hk
theorem tG {xs:List Int}(h:∀j,j<xs.length→En.money (xs.getD j 0)=true):(En.money (Sh.sum xs)=true→Ce.sumErr xs=0)∧(En.money (Sh.sum xs)=false→Ce.sumErr xs=67):=by
 have h4:(xs.any fun x => !En.money x)=false:=by
  rw[List.any_eq_false];intro x hx;obtain⟨j,hj,rfl⟩:=List.getElem_of_mem hx;have:=h j hj;rw[List.getD_eq_getElem?_getD,List.getElem?_eq_getElem hj]at this;have e:En.money xs[j]=true:=this;rw[e]
  simp
 unfold Ce.sumErr;rw[h4];refine⟨fun h=>?_,fun h=>?_⟩
 ·rw[h];simp
 ·rw[h];simp
theorem yMA {xs:List Int}{k:Nat}(hk:k≤xs.length)(h16:xs.length≤16)(h:∀j,j<k→En.money (xs.getD j 0)=true):0≤Sh.sum (xs.take k)∧Sh.sum (xs.take k)≤1099511627776:=by
 have hx:∀x∈xs.take k,0≤x∧x≤68719476736:=fun x hx=>by
  obtain⟨j,hj,rfl⟩:=List.getElem_of_mem hx;rw[List.length_take]at hj;have:=h j (by omega);rw[List.getD_eq_getElem?_getD,List.getElem?_eq_getElem (by omega)]at this;rw[List.getElem_take];exact En.money_iff.1 this
 refine⟨Sh.sum_nonneg fun x m=>(hx x m).1,?_⟩
 have:=Sh.sum_le_len fun x m=>(hx x m).2
 have hl:(xs.take k).length≤xs.length:=List.length_take_le' _ _;omega
theorem lM (p:Option Addr)(xs:List Int)(cap:Nat)(w:World)(h:qR w p xs)(h16:xs.length≤16) :
  Calls Tryz.prog 146 #[.slice p xs.length cap] w fun e w' => e = .returned (.tuple #[I O (gR xs),I O (Ce.sumErr xs)])∧w=w' :=by
 have H:=mh h;clear h
 go_enter Tryz.func146,Tryz.ntmps146
 go_wp2
 go_loop [9,4] (fun i s=>∃k:Nat,k≤xs.length∧i=I O k∧s=I O (Sh.sum (xs.take k))∧∀j,j<k→En.money (xs.getD j 0)=true) (fun i _=>xs.length - (intOf i).toNat)
 case atStart=>exact⟨0,Nat.zero_le _,rfl,by simp[Sh.sum],fun j hj=>absurd hj (Nat.not_lt_zero j)⟩
 case round =>
  obtain⟨k,hk,rfl,rfl,hok⟩:=hrel;have HOK:=mh hok;have hs:=yMA hk h16 hok;clear hok
  by_cases hlt:k<xs.length
  ·obtain⟨b,off,x,rfl,hbl,hcell,hx⟩:=H.get hlt
   by_cases hm:En.money x=true
   ·have m:=En.money_iff.1 hm
    have hst:=mh (zG hlt);have hok' : ∀j,j<k+1→En.money (xs.getD j 0)=true:=fun j hj=>by
     by_cases e:j=k
     ·rw[e,hx.out];exact hm
     ·exact HOK j (by omega)
    have HOK' := mh hok'; clear hok'
    go_wp2_with (first|(go_at_call 88;refine(yW _ _).mono ?_;rintro e w' ⟨rfl,rfl⟩))
    go_round
    case rel=>exact⟨k+1,by omega,by go_num,by rw[hst.out,hx.out],HOK'.out⟩
    case measure=>simp[intOf];omega
   ·have hm' : En.money x=false:=by simpa using hm
    have he:=pQ hlt hx.out hm'; have hv:gR xs=0:=by unfold gR;rw[if_neg (by rw[he];decide)]
    have HE:=mh (And.intro hv he);clear he hv hm
    go_wp2_with (first|(go_at_call 88;refine(yW _ _).mono ?_;rintro e w' ⟨rfl,rfl⟩))
    go_ret2
    exact⟨by rw[HE.out.1,HE.out.2];rfl,rfl⟩
  ·obtain rfl:k=xs.length:=by omega
   obtain⟨h1,h2⟩:=tG HOK.out;rw[List.take_length]at hs;rw[List.take_length]
   cases hm:En.money (Sh.sum xs)
   ·have he:=h2 hm
    have hv:gR xs=0:=by unfold gR;rw[if_neg (by rw[he];decide)]
    have HE:=mh (And.intro hv he);clear h1 h2 he hv hlt hk
    go_wp2_with (first|(go_at_call 88;refine(yW _ _).mono ?_;rintro e w' ⟨rfl,rfl⟩))
    go_ret2
    exact⟨by rw[HE.out.1,HE.out.2];rfl,rfl⟩
   ·have he:=h1 hm
    have hv:gR xs=Sh.sum xs:=by unfold gR;rw[if_pos he]
    have HE:=mh (And.intro hv he);clear h1 h2 he hv hlt hk
    go_wp2_with (first|(go_at_call 88;refine(yW _ _).mono ?_;rintro e w' ⟨rfl,rfl⟩))
    go_ret2
    exact⟨by rw[HE.out.1,HE.out.2];rfl,rfl⟩
theorem mK (D:List (Int × Int))(m:Int)(xs:List Int) :
  (¬Ce.Right D∧Ce.chk D=66∧Ce.farmErr D m xs=66)∨(Ce.chk D=0∧En.money m=false∧Ce.farmErr D m xs=67)∨(Ce.chk D=0∧En.money m=true∧16<xs.length∧Ce.farmErr D m xs=1) ∨
  (Ce.chk D=0∧En.money m=true∧xs.length≤16∧Ce.sumErr xs=67∧Ce.farmErr D m xs=67)∨(Ce.chk D=0∧En.money m=true∧Ce.Fine D m xs):=by
 by_cases h1:Ce.Right D
 ·have c:=Ce.chk_zero.2 h1
  cases h2:En.money m
  ·exact .inr (.inl ⟨c,rfl,by unfold Ce.farmErr;rw[if_neg (by rw[c];simp),if_pos h2]⟩)
  ·by_cases h3:16<xs.length
   ·exact .inr (.inr (.inl ⟨c,rfl,h3,by unfold Ce.farmErr;rw[if_neg (by rw[c];simp),if_neg (by rw[h2];simp),if_pos h3]⟩))
   ·have e:Ce.farmErr D m xs=Ce.sumErr xs:=by unfold Ce.farmErr;rw[if_neg (by rw[c];simp),if_neg (by rw[h2];simp),if_neg h3]
    by_cases h4:Ce.sumErr xs=0
    ·exact .inr (.inr (.inr (.inr ⟨c,rfl,Ce.fine_of (by rw[e,h4])⟩)))
    ·have h5:Ce.sumErr xs=67:=by unfold Ce.sumErr at h4 ⊢;split at h4<;>simp_all
     exact .inr (.inr (.inr (.inl ⟨c,rfl,by omega,h5,by rw[e,h5]⟩)))
 ·have c:=Ce.chk_not h1
  exact .inl ⟨h1,c,by unfold Ce.farmErr;rw[if_pos (by rw[c];decide)]⟩
theorem xH {D:List (Int × Int)}{m:Int}{xs:List Int}{r:Int}(h:Ce.farmErr D m xs=r)(hr:r≠0):Ce.farm D m xs = []:=by
 unfold Ce.farm;rw[if_pos (by rw[h];exact hr)]
theorem kHA (p:Option Addr)(D:List (Int × Int))(cap:Nat)(m:Int)(q:Option Addr)(xs:List Int)(capx:Nat)(w:World)(hP:jF w p D)(hI:qR w q xs) :
  Calls Tryz.prog 101 #[.slice p D.length cap,I O m,.slice q xs.length capx] w (zK w (Ce.farm D m xs) (Ce.farmErr D m xs)):=by
 have hc:=sF p D cap w hP;have hlen:=hI.len
 rcases mK D m xs with⟨_,c,e⟩|⟨c,hm,e⟩|⟨c,hm,h16,e⟩|⟨c,hm,h16,hs,e⟩|⟨c,hm,hF⟩
 ·rw[c]at hc
  rw[e,xH e (by decide)];have HC:=mh hc;clear hP hI hc c e
  go_enter Tryz.func101,Tryz.ntmps101
  go_wp2_with (first|(go_at_call 50;refine(HC).mono ?_;rintro e w1 ⟨rfl,hb1⟩))
  go_ret2
  exact⟨none,0,rfl,qR.nil _ _,hb1,fun _ h=>by cases h⟩
 ·rw[c]at hc
  rw[e,xH e (by decide)];have HC:=mh hc;clear hP hI hc c e
  go_enter Tryz.func101,Tryz.ntmps101
  go_wp2_with (first|(go_at_call 50;refine(HC).mono ?_;rintro e w1 ⟨rfl,hb1⟩)|(go_at_call 88;refine(yW _ _).mono ?_;rintro e w' ⟨rfl,rfl⟩))
  go_ret2
  exact⟨none,0,rfl,qR.nil _ _,hb1,fun _ h=>by cases h⟩
 ·rw[c]at hc
  rw[e,xH e (by decide)];have HC:=mh hc;clear hP hI hc c e
  go_enter Tryz.func101,Tryz.ntmps101
  go_wp2_with (first|(go_at_call 50;refine(HC).mono ?_;rintro e w1 ⟨rfl,hb1⟩)|(go_at_call 88;refine(yW _ _).mono ?_;rintro e w' ⟨rfl,rfl⟩))
  go_ret2
  exact⟨none,0,rfl,qR.nil _ _,hb1,fun _ h=>by cases h⟩
 ·rw[c]at hc
  rw[e,xH e (by decide)];have hsu:=fun (W:World) (h:qR W q xs)=>lM q xs capx W h h16
  rw[hs]at hsu;have HSU:=mh hsu;have HC:=mh hc;have HI:=mh hI;clear hP hI hc c e hsu hs
  go_enter Tryz.func101,Tryz.ntmps101
  go_wp2_with (first|(go_at_call 50;refine(HC).mono ?_;rintro e w1 ⟨rfl,hb1⟩)|(go_at_call 88;refine(yW _ _).mono ?_;rintro e w' ⟨rfl,rfl⟩)|(go_at_call 146;refine(HSU _ (HI.below hb1)).mono ?_;rintro e w' ⟨rfl,rfl⟩))
  go_ret2
  exact⟨none,0,rfl,qR.nil _ _,hb1,fun _ h=>by cases h⟩
 ·rw[c]at hc
  have F:=mh hF;have h16:=hF.len;have hs0:=hF.sum0;have hs1:=hF.sum;have hsu:=fun (W:World) (h:qR W q xs)=>lM q xs capx W h h16
  rw[hF.sumErr,show gR xs=Sh.sum xs by unfold gR;rw[if_pos hF.sumErr]]at hsu;have hr:=fun (W:World) (h:jF W p D)=>qYA p D cap (Sh.sum xs) W h hF.right hs0 hs1
  rw[hF.err];have hleft:Ce.farmLeft D m xs=min m (Ce.red D (Sh.sum xs)):=rfl;have HSU:=mh hsu;have HR:=mh hr;have HC:=mh hc;have HI:=mh hI;have HP:=mh hP
  by_cases heq:Ce.farmLeft D m xs=Sh.sum xs
  ·rw[hF.same heq]
   rw[hleft]at heq;have hbq:(Sh.sum xs==Sh.sum xs)=true:=by simp
   obtain⟨i0,hi,hz0,hz1,hz2⟩:=info_parts yS;have HIN:=mh (And.intro hi (And.intro hz0 (And.intro hz1 hz2)));clear hP hI hc c hsu hr hF hleft hi hz0 hz1 hz2
   go_enter Tryz.func101,Tryz.ntmps101
   go_wp2_with (first|(go_at_call 50;refine(HC).mono ?_;rintro e w1 ⟨rfl,hb1⟩)|(go_at_call 88;refine(yW _ _).mono ?_;rintro e w' ⟨rfl,rfl⟩)|(go_at_call 146;refine(HSU _ (HI.below hb1)).mono ?_;rintro e w' ⟨rfl,rfl⟩)|(go_at_call 147;refine(HR _ (HP.below hb1)).mono ?_;rintro e w2 ⟨rfl,hb2⟩)|(at_builtin;(refine Own.copyOf HIN.1 HIN.2.1 HIN.2.2.1 HIN.2.2.2 Tryz.underlying22 rfl (.const (.slice none 0 0)) (.tmp 41) rfl xs q capx ((HI.below hb1).below hb2) rfl rfl (by omega) ?_);intro v3 w3 hown3 hb3))
   obtain⟨p3,c3,rfl,hI3,hn3⟩:=hown3.intsN
   go_ret2
   exact⟨p3,c3,rfl,hI3,qH (qH hb1 hb1.size hb2) (Nat.le_trans hb1.size hb2.size) hb3,fun a h=>Nat.le_trans (Nat.le_trans hb1.size hb2.size) (hn3 a h)⟩
  ·have hfa:Ce.farm D m xs=jD (Ce.farmLeft D m xs) xs:=by unfold Ce.farm;rw[if_neg (by rw[hF.err];simp),if_neg heq]
   have hsh:=fun (W:World) (h:qR W q xs)=>cL (Ce.farmLeft D m xs) q xs capx W h
   rw[hF.shErr]at hsh;rw[hfa];rw[hleft]at heq hsh ⊢;have hbq:(min m (Ce.red D (Sh.sum xs))==Sh.sum xs)=false:=by simpa using heq
   have HSH:=mh hsh;clear hP hI hc c hsu hr hF hleft hfa hsh heq
   go_enter Tryz.func101,Tryz.ntmps101
   go_wp2_with (first|(go_at_call 50;refine(HC).mono ?_;rintro e w1 ⟨rfl,hb1⟩)|(go_at_call 88;refine(yW _ _).mono ?_;rintro e w' ⟨rfl,rfl⟩)|(go_at_call 146;refine(HSU _ (HI.below hb1)).mono ?_;rintro e w' ⟨rfl,rfl⟩)|(go_at_call 147;refine(HR _ (HP.below hb1)).mono ?_;rintro e w2 ⟨rfl,hb2⟩)|(go_at_call 96;refine(HSH _ ((HI.below hb1).below hb2)).mono ?_;rintro e w3 ⟨p3,c3,rfl,hI3,hb3,hn3⟩))
   go_ret2
   exact⟨p3,c3,rfl,hI3,qH (qH hb1 hb1.size hb2) (Nat.le_trans hb1.size hb2.size) hb3,fun a h=>Nat.le_trans (Nat.le_trans hb1.size hb2.size) (hn3 a h)⟩
open Sc As
theorem As.timelies_snoc (A:List Awd)(a:Awd):qY (A ++ [a])=qY A ++ [a.timely]:=by unfold qY;rw[List.map_append];rfl
def As.capN (A:List Awd) (c:List Int) (j:Nat):List Awd:=A.mapIdx fun i a=>if i<j then { a with capped:=c.getD i 0 } else a
theorem As.capN_len (A:List Awd)(c:List Int)(j:Nat):(capN A c j).length=A.length:=by unfold capN;simp
theorem As.capN_at (A:List Awd)(c:List Int)(j i:Nat)(h:i<(capN A c j).length)(h' : i<A.length):(capN A c j)[i]=if i<j then { A[i] with capped:=c.getD i 0 } else A[i]:=by simp[capN]
theorem As.capN_zero (A:List Awd)(c:List Int):capN A c 0=A:=by
 apply List.ext_getElem (capN_len _ _ _)
 intro i h h'; rw[capN_at _ _ _ _ h h', if_neg (by omega)]
theorem As.capN_all (A:List Awd)(c:List Int):capN A c A.length=jT A c:=by
 apply List.ext_getElem (by rw[capN_len,wL])
 intro i h h'; rw[capN_len]at h;rw[capN_at _ _ _ _ _ h,if_pos h,dY _ _ _ _ h]
theorem As.capN_succ (A:List Awd)(c:List Int)(j:Nat)(h:j<(capN A c j).length):capN A c (j+1)=(capN A c j).set j { (capN A c j)[j] with capped:=c.getD j 0 }:=by
 apply List.ext_getElem (by rw[List.length_set,capN_len,capN_len])
 intro i h1 h2;rw[capN_len]at h1;rw[capN_at _ _ _ _ _ h1,List.getElem_set]
 by_cases e:j=i
 ·subst e
  rw[if_pos rfl,if_pos (by omega),capN_at _ _ _ _ _ h1,if_neg (by omega)]
 ·rw[if_neg e,capN_at _ _ _ _ _ h1]
  by_cases h3:i<j
  ·rw[if_pos h3,if_pos (by omega)]
  ·rw[if_neg h3,if_neg (by omega)]
theorem FV.any {Q:Nat→Prop}{w:World}{r:RF}{f:FarmF}(h:FV Q w r f):FV (fun _=>True) w r f:=h.change mle fun _ _ _=>⟨rfl,trivial⟩
theorem yF.one {W:World}{r:RF}{f:FarmF}(fv:FV (fun _=>True) W r f)(T:TypeId):yF (fun _=>True) (W.alloc (.cells (fCells r).toArray T)) (some ⟨W.heap.size,0,none⟩) [f]:=by
 have hA:Below W.heap.size W (W.alloc (.cells (fCells r).toArray T)):=(brf _ _).alloc mle _;refine⟨⟨[r],rfl,qD.lit (S:=SF) W T [r] (by show 1≤_;unfold maxLen;omega),fun k a b=>?_⟩,fun a e => .inr trivial⟩
 match k,a with
 | 0,_=>exact fv.below hA
theorem YV.lt {Q:Nat→Prop}{w:World}{d:Nat}{r:RY}{l:YLaw}(h:YV Q w d r l):YV (fun b=>b<w.heap.size) w d r l:=h.change mle fun _ _ hl=>⟨rfl,hl⟩
theorem FV.lt {Q:Nat→Prop}{w:World}{r:RF}{f:FarmF}(h:FV Q w r f):FV (fun b=>b<w.heap.size) w r f:=h.change mle fun _ _ hl=>⟨rfl,hl⟩
def As.FrG (l:YLaw) (f:FarmF) (w:World) (e:Ending) (w' : World):Prop :=
 ∃va vr,e = .returned (.tuple #[va,vr,I O (farmErr l f)])∧qX SA w' 91 w.heap.size va (jV l f)∧qX SRn w' 129 w.heap.size vr (gD l f)∧Below w.heap.size w w'
theorem As.FrG.err {l:YLaw}{f:FarmF}{w w' : World}{er:Int}(h:farmErr l f=er)(hne:er≠0)(hb:Below w.heap.size w w'):FrG l f w (.returned (.tuple #[.slice none 0 0,.slice none 0 0,I O er])) w' :=
 ⟨.slice none 0 0,.slice none 0 0,by rw[h],by unfold jV;rw[if_pos (by rw[h];exact hne)];exact qX.nil _ _ _,by unfold gD;rw[if_pos (by rw[h];exact hne)];exact qX.nil _ _ _,hb⟩
theorem As.allAw_snoc (l:YLaw)(F:List FarmF)(f:FarmF):jY l (F ++ [f])=jY l F++jV l f:=by unfold jY;rw[List.flatMap_append];simp
theorem As.allErr_snoc {l:YLaw}{F:List FarmF}(f:FarmF)(h:jL l F=0):jL l (F ++ [f])=farmErr l f:=by
 rw[kC,if_neg (by rw[h];simp)];unfold jL
 split
 ·rfl
 ·rename_i h;simp at h;rw[h];rfl
theorem As.allErr_bad {l:YLaw}{F:List FarmF}{k:Nat}(hk:k<F.length)(h:jL l (F.take k)=0)(hne:farmErr l F[k]≠0):jL l F=farmErr l F[k]:=by
 have e:F=F.take k++F[k]::F.drop (k+1):=by rw[← List.drop_eq_getElem_cons hk,List.take_append_drop]
 have h2:jL l (F.take k++F[k]::F.drop (k+1))=farmErr l F[k]:=by
  rw[kC,if_neg (by rw[h];simp)];unfold jL;rw[if_pos hne]
 rw[← e]at h2;exact h2
def As.dueN (A:List Awd) (c:List Int) (j:Nat):List Awd:=A.mapIdx fun i a=>if i<j then { a with due:=c.getD i 0 } else a
theorem As.dueN_len (A:List Awd)(c:List Int)(j:Nat):(dueN A c j).length=A.length:=by unfold dueN;simp
theorem As.dueN_at (A:List Awd)(c:List Int)(j i:Nat)(h:i<(dueN A c j).length)(h' : i<A.length):(dueN A c j)[i]=if i<j then { A[i] with due:=c.getD i 0 } else A[i]:=by simp[dueN]
theorem As.dueN_zero (A:List Awd)(c:List Int):dueN A c 0=A:=by
 apply List.ext_getElem (dueN_len _ _ _)
 intro i h h'; rw[dueN_at _ _ _ _ h h', if_neg (by omega)]
theorem As.dueN_all (A:List Awd)(c:List Int):dueN A c A.length=vY A c:=by
 apply List.ext_getElem (by rw[dueN_len,xQ])
 intro i h h'; rw[dueN_len]at h;rw[dueN_at _ _ _ _ _ h,if_pos h,vD _ _ _ _ h]
theorem As.dueN_succ (A:List Awd)(c:List Int)(j:Nat)(h:j<(dueN A c j).length):dueN A c (j+1)=(dueN A c j).set j { (dueN A c j)[j] with due:=c.getD j 0 }:=by
 apply List.ext_getElem (by rw[List.length_set,dueN_len,dueN_len])
 intro i h1 h2;rw[dueN_len]at h1;rw[dueN_at _ _ _ _ _ h1,List.getElem_set]
 by_cases e:j=i
 ·subst e
  rw[if_pos rfl,if_pos (by omega),dueN_at _ _ _ _ _ h1,if_neg (by omega)]
 ·rw[if_neg e,dueN_at _ _ _ _ _ h1]
  by_cases h3:i<j
  ·rw[if_pos h3,if_pos (by omega)]
  ·rw[if_neg h3,if_neg (by omega)]
structure As.DuS (H B:Nat) (w0 wr:World) (va:Value) (A:List Awd) (pF:Option Addr) (C:List Int) (j:Nat):Prop where
 oa:qX SA wr 91 B va (dueN A C j)
 low:Below B w0 wr
 ints:qR wr pF C
 nb:∀g,va.ownBlock=some g→g<H
 pf:∀a,pF=some a→H≤a.block
theorem As.DuS.set {H B:Nat}{w0 wr:World}{va:Value}{A:List Awd}{pF:Option Addr}{C:List Int}{j n:Nat}(h:DuS H B w0 wr va A pF C j)(hn:A.length=n)(hj:j<n) :
  ∃g c u,va = .slice (some ⟨g,0,none⟩) n c∧wr.cell? ⟨g,j*9+8,none⟩=some u∧wr.frozen? ⟨g,j*9+8,none⟩=false∧DuS H B w0 (wr.setCell ⟨g,j*9+8,none⟩ (I O (C.getD j 0))) va A pF C (j+1):=by
 have hl:(dueN A C j).length=n:=by rw[dueN_len,hn]
 obtain⟨p,c,e, -, -, -, -, -⟩:=h.oa.cut hl;have ho:=h.oa;rw[e]at ho;obtain⟨g,rfl, -,hB,hg,hcl,hf,hs⟩:=ho.at (show j<(dueN A C j).length by rw[hl];exact hj);have h9:SA.k=9:=rfl;rw[h9]at hcl hs;have hgo:va.ownBlock=some g:=by rw[e];rfl
 refine⟨g,c,_,e,hcl 8 _ rfl,hf _,⟨?_,h.low.setCell (show B≤g from hB) _,?_,h.nb,h.pf⟩⟩
 ·rw[e,dueN_succ _ _ _ (show j<(dueN A C j).length by rw[hl];exact hj)]
  exact hs 8 _ _ (by omega) rfl
 ·refine⟨h.ints.1,?_⟩
  rcases h.ints.2 with q|⟨b,off,q,hlt,hc⟩
  ·exact .inl q
  ·have:H≤b:=h.pf _ q
   have:=h.nb g hgo;exact .inr ⟨b,off,q,by simp[World.setCell];exact hlt,fun k hk=>(World.cell?_setCell_other _ _ _ _ (fun e=>by simp only[Addr.mk.injEq]at e;omega)).trans (hc k hk)⟩
def As.AsG (l:YLaw) (F:List FarmF) (w:World) (e:Ending) (w' : World):Prop :=
 ∃va,e = .returned (.tuple #[va,I O (jR l F)])∧qX SA w' 91 w.heap.size va (yP l F)∧Below w.heap.size w w'
theorem As.AsG.err {l:YLaw}{F:List FarmF}{w w' : World}{er:Int}(h:jR l F=er)(hne:er≠0)(hb:Below w.heap.size w w'):AsG l F w (.returned (.tuple #[.slice none 0 0,I O er])) w' :=
 ⟨.slice none 0 0,by rw[h],by unfold yP;rw[if_pos (by rw[h];exact hne)];exact qX.nil _ _ _,hb⟩
end Go.Proofs.YtefcalgjnkigjaaGreat
