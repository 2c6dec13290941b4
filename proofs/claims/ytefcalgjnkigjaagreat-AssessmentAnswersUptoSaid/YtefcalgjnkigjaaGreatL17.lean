/- Packed. -/
import Derived.Test.YtefcalgjnkigjaaGreatL16
set_option maxRecDepth 100000
set_option maxHeartbeats 8000000
open Go.Value renaming int → I
open Go.IntKind renaming i64 → O
namespace Go.Proofs.YtefcalgjnkigjaaGreat
open Go.RowKit Sc As
def RsG (t:Nat) (r:RY) (f:RF) (va vr:Value) (L:List Rsn) (w:World) (e:Ending) (w' : World):Prop :=
 e = .returned (.tuple #[])∧∃vr', zD w' t r f va vr' ∧ qX SRn w' 129 (t+1) vr' L∧Chg t vr vr' w w'
theorem Chg.of_app {t B H:Nat}{v v' : Value}{w w' : World}(h:jN w w' B H v v')(hH:v'.ownBlock=v.ownBlock∨w.heap.size≤H):Chg t v v' w w' :=
 ⟨h.below.os,h.below.tape,h.below.output,h.size,fun i hi _ hv=>h.far i hi hv,by
  rcases h.block with e|e
  ·exact .inl e
  ·rcases hH with k|k
   ·exact .inl k
   ·exact .inr fun g hg=>by rw[e]at hg;cases hg;exact k⟩
theorem Chg.setT {t i:Nat}{v v' : Value}{a b:World}(h:Chg t v v' a b)(u:Value):Chg t v v' a (b.setCell ⟨t,i,none⟩ u) :=
 h.trans ⟨rfl,rfl,rfl,by simp[World.setCell],fun k _ hk _=>by simp[World.setCell,Array.getElem?_modify,Ne.symm hk],.inl rfl⟩
theorem Chg.setO {t i g:Nat}{v v' : Value}{a b:World}(h:Chg t v v' a b)(hg:v'.ownBlock=some g)(u:Value):Chg t v v' a (b.setCell ⟨g,i,none⟩ u) :=
 h.trans ⟨rfl,rfl,rfl,by simp[World.setCell],fun k _ _ hk=>by
  have:g≠k:=fun e=>hk (by rw[hg,e])
  simp[World.setCell,Array.getElem?_modify,this],.inl rfl⟩
theorem zD.setO {w:World}{t g i:Nat}{r:RY}{f:RF}{va vr:Value}(h:zD w t r f va vr)(hg:g≠t)(u:Value):zD (w.setCell ⟨g,i,none⟩ u) t r f va vr :=
 h.same (by simp[World.setCell,Array.getElem?_modify,hg])
theorem tY (A D:List Rsn)(z:Rsn):∃h,(A++D ++ [z]).take (A.length+1)++((A++D ++ [z]).drop A.length).take D.length=A++h::D:=by
 cases D with
 | nil=>exact⟨z,by simp[List.take_of_length_le]⟩
 | cons d D=>exact⟨d,by simp[List.take_append,List.take_of_length_le]⟩
theorem qX.set3 {w:World}{B g n c:Nat}{A D:List Rsn}{y:Rsn}(h:qX SRn w 129 B (.slice (some ⟨g,0,none⟩) n c) (A++y::D))(x:Rsn) :
  qX SRn (((w.setCell ⟨g,A.length*3,none⟩ (I O x.line)).setCell ⟨g,A.length*3+1,none⟩ (I O x.scheme)).setCell ⟨g,A.length*3+2,none⟩ (I O x.kind)) 129 B (.slice (some ⟨g,0,none⟩) n c) (A++x::D):=by
 have step:∀(w:World) (y z:Rsn) (i:Nat) (u:Value),i<3→fF z=(fF y).set i u→qX SRn w 129 B (.slice (some ⟨g,0,none⟩) n c) (A++y::D)→qX SRn (w.setCell ⟨g,A.length*3+i,none⟩ u) 129 B (.slice (some ⟨g,0,none⟩) n c) (A++z::D):=by
  intro w y z i u hi hz h;obtain⟨g', e,_,_,_,_,_,hs⟩:=h.at (k:=A.length) (by simp)
  cases e
  have key:=hs i u z hi (by
   have:(A++y::D)[A.length]'(by simp)=y:=by simp
   rw[this];exact hz)
  rw[show(A++y::D).set A.length z=A++z::D from by simp]at key;exact key
 have h1:=step w y ⟨x.line,y.scheme,y.kind⟩ 0 (I O x.line) (by decide) rfl h;have h2:=step _ ⟨x.line,y.scheme,y.kind⟩ ⟨x.line,x.scheme,y.kind⟩ 1 (I O x.scheme) (by decide) rfl h1;have h3:=step _ ⟨x.line,x.scheme,y.kind⟩ x 2 (I O x.kind) (by decide) rfl h2;exact h3
theorem rN (t:Nat)(r:RY)(f:RF)(va vr:Value)(A D:List Rsn)(x:Rsn)(w:World)(hA:zD w t r f va vr)(hR:qX SRn w 129 (t+1) vr (A++D))(hlen:A.length+D.length<1000)(h1:∀y∈A,y.line≤x.line)(h2:∀y∈D,x.line<y.line) :
  Calls Tryz.prog 142 #[.pointer (some ⟨t,0,none⟩),.agg (fF x).toArray] w (RsG t r f va vr (A++x::D) w):=by
 have htl:=hA.lt;have hov:∀k,vr.ownBlock=some k→t+1≤k∧k<w.heap.size:=fun k hk=>hR.lt hk
 obtain⟨n1,hn1⟩:∃n,A.length=n:=⟨_,rfl⟩;obtain⟨N,hN⟩:∃N,A.length+D.length=N:=⟨_,rfl⟩;have hln:(A++D).length=N:=by rw[lap];exact hN
 obtain⟨p,c,rfl,hp0,hpx,hnc,hcm, -⟩:=hR.cut hln;have HA:=mh ((brf w.heap.size w).alloc mle (.cells #[I O x.line,I O x.scheme,I O x.kind] 129));obtain⟨w1,ew1⟩:∃W,w.alloc (.cells #[I O x.line,I O x.scheme,I O x.kind] 129)=W:=⟨_,rfl⟩;have hb1:Below w.heap.size w w1:=ew1▸HA.out;have hs1:w1.heap.size=w.heap.size+1:=by rw[← ew1];simp
 have hx1:w1.heap[w.heap.size]?=some (.cells #[I O x.line,I O x.scheme,I O x.kind] 129):=by rw[← ew1];exact Array.getElem?_push_size
 have HX1:=mh hx1;have HB1:=mh hb1;have HS1:=mh hs1;have HO:=mh hov;have HA1:=mh (hA.below hb1 htl);have HR1:=mh (hR.below hb1);have HPX:=mh hpx;have EW:=mh ew1;have hN1:N<1000:=by omega
 have hn1N:n1≤N:=by omega
 clear hb1 hs1 hx1 hA hR hov hpx hp0 HA hcm ew1;simp only[fF];have k14:(w.alloc (.cells #[I O x.line,I O x.scheme,I O x.kind] 129)).cell? ⟨t,14,none⟩=some (.slice p N c):=by rw[EW.out];exact HA1.cell 14 _ rfl
 go_enter Tryz.func142,Tryz.ntmps142
 go_wp2
 rw[EW.out];clear k14 EW
 go_loopw [4] (fun i wr=>∃j:Nat,n1≤j∧j≤N∧i=I O j∧Below w1.heap.size w1 wr) (fun i _=>(intOf i).toNat)
 case atStart=>exact⟨N,hn1N,Nat.le_refl _,rfl,brf _ _⟩
 case round =>
  obtain⟨j,hj1,hjN,rfl,hb⟩:=hrel;have hj0:(0:Int)≤(j:Int):=inn _;have a14:=(HA1.below hb (by rw[HS1.out];omega)).cell 14 _ rfl;have b0:wr.cell? ⟨w.heap.size,0,none⟩=some (I O x.line):=(hb.cell (p:=⟨w.heap.size,0,none⟩) (by rw[HS1.out];exact Nat.lt_succ_self _)).trans (by simp[World.cell?,HX1.out])
  rcases Nat.eq_zero_or_pos j with hz|hpos
  ·have fz:decide (0<j)=false:=dqf (by omega)
   have hjn:(j:Int)=(n1:Int):=by omega
   rw[hjn];have fz2:decide (0<n1)=false:=dqf (by omega);clear hz fz hj1 hjN
   go_wp2_with fail
   refine wp_region_quiet_lit (by kernel_rfl) (by kernel_rfl) ?_
   try simp only[List.append_eq,List.cons_append,List.nil_append]
   repeat (go_big_quiet_step (fail))
   refine wpQuiet_nil ?_
   intro _ hwq;obtain⟨nq,hwr⟩:=hwq;subst hwr;obtain⟨wq,ewq⟩:∃W,wr.drewN nq=W:=⟨_,rfl⟩;rw[ewq];have HBQ:=mh (show Below w1.heap.size w1 wq from ewq▸qH hb hb.size (qQ _ _));clear ewq hb a14 b0;have HAQ:=mh (HA1.below HBQ (by rw[HS1.out];omega));have HRQ:=mh (HR1.below HBQ);have HTQ:=mh (show t+1≤wq.heap.size from Nat.le_trans (show t+1≤w1.heap.size by rw[HS1.out];omega) HBQ.size);have q14:=HAQ.cell 14 _ rfl
   go_wp2_with (first|(at_builtin;(refine qX.append fK rfl (.tmp 32) (.tmp 34) rfl (t+1) _ (A++D) ⟨0,0,0⟩ #[I O 0,I O 0,I O 0] rfl HRQ rfl rfl HTQ (by rw[hln];omega) (by decide) ?_);intro v5 w5 hO5 hap5;obtain⟨p5,c5,rfl, -, -,hnc5, -, -⟩:=hO5.cut (n:=N+1) (by rw[lap,hln];rfl);obtain⟨g5,e5, -,hBg,hlg, -, -, -⟩:=hO5.at (k:=0) (by rw[lap];exact Nat.succ_pos _);cases e5;have A5:=HAQ.below hap5.below (Nat.lt_succ_self t);have r14:=A5.cell 14 _ rfl;have f14:=A5.frozen 14;have HA5:=mh A5;have HO5:=mh hO5;have HP5:=mh hap5;have HG5:=mh (And.intro hBg hlg);clear A5 hO5 hap5 hBg hlg)|fail)
   obtain⟨w6,ew6⟩:∃W,w5.setCell ⟨t,14,none⟩ (.slice (some ⟨g5,0,none⟩) (N+1) c5)=W:=⟨_,rfl⟩;rw[ew6];have HA6:=mh (show zD w6 t r f va _ from ew6▸HA5.setR (.slice (some ⟨g5,0,none⟩) (N+1) c5));have HO6:=mh (show qX SRn w6 129 (t+1) (.slice (some ⟨g5,0,none⟩) (N+1) c5) (A++D ++ [⟨0,0,0⟩]) from ew6▸qX.setOther HO5 (by show some g5≠some t;intro e;cases e;have:=HG5.1;omega) _);have HC6:=mh (show Chg t (.slice p N c) (.slice (some ⟨g5,0,none⟩) (N+1) c5) w w6 from ew6▸(((Chg.of_below (HB1.trans (HBQ.mono (by rw[HS1.out];omega)))).trans (Chg.of_app HP5 (.inr (by omega)))).setT _))
   have HX6:=mh (show w6.heap[w.heap.size]?=some (.cells #[I O x.line,I O x.scheme,I O x.kind] 129) from by
    rw[← ew6];have e1:w5.heap[w.heap.size]?=some (.cells #[I O x.line,I O x.scheme,I O x.kind] 129):=by
     rw[HP5.out.far _ (nll (show w.heap.size<w1.heap.size by rw[HS1.out];omega) HBQ.out.size) (fun e=>by have:=(HO.out _ e).2;omega),HBQ.out.block _ (by rw[HS1.out];omega)];exact HX1.out
    rw[← e1];have:t≠w.heap.size:=by omega
    simp[World.setCell,Array.getElem?_modify,this])
   have HL6:=mh (show g5<w6.heap.size from by rw[← ew6];simp[World.setCell];exact HG5.2);clear ew6 r14 f14 q14;have s14:=HA6.cell 14 _ rfl;obtain⟨q1,d1,Q1,R1⟩:=vF g5 (N+1) c5 (n1+1) (by omega) hnc5;obtain⟨q2,d2,Q2,R2⟩:=vF g5 (N+1) c5 n1 (by omega) hnc5;have hm1:N+1 - (n1+1)=D.length:=by omega
   have hm2:N+1 - n1=D.length+1:=by omega
   rw[hm1]at Q1 R1;rw[hm2]at R2 Q2;have hcn:((n1+1:Nat):Int)=(n1:Int)+1:=by push_cast;rfl
   rw[hcn]at R1;have HQ1:=mh Q1;have HQ2:=mh (fun (h:0<D.length)=>Q2 (by omega));clear Q1 Q2 hm1 hm2 hcn;have hw1:IntKind.i64.wrap ((n1:Int)+1)=(n1:Int)+1:=by rw[IntKind.wrap_i64];omega
   go_region_law ((refine qX.stepShift fK (by rfl) (.tmp 44) (.tmp 50) (by rfl) (t+1) (.slice (some ⟨g5,0,none⟩) (N+1) c5) (A++D ++ [⟨0,0,0⟩]) n1 D.length HO6.drew (by rw[lap,hln];simp;omega) g5 rfl q1 q2 d1 d2 (by rfl) (by rfl) HQ1 HQ2 ?_;intro w7 hO7 hap7;have HO7:=mh hO7;have HP7:=mh hap7;have t14:=(HA6.same (w' := w7) (hap7.below.block t (Nat.lt_succ_self t))).cell 14 _ rfl;clear hO7 hap7))
   all_goals
    obtain⟨h0,eh⟩:=tY A D ⟨0,0,0⟩
    have HO8:=mh (show qX SRn w7 129 (t+1) (.slice (some ⟨g5,0,none⟩) (N+1) c5) (A++h0::D) from by
     have:=HO7.out;rw[← hn1,eh]at this
     exact this)
    have NG:=mh (show g5≠w.heap.size from by
     intro e
     rcases HP5.block with k|k
     ·have:=(HO g5 (by rw[← k];rfl)).2
      omega
     ·have k:some g5=some (wq.heap.size+1):=k
      cases k
      have:=HBQ.size;have:=HS1.out
      omega)
    have hx7:w7.heap[w.heap.size]?=some (.cells #[I O x.line,I O x.scheme,I O x.kind] 129):=by
     rw[HP7.out.far _ (by have:=HX6.out;exact(Array.getElem?_eq_some_iff.1 this).1) (fun e=>NG.out (by cases e;rfl))];exact HX6.out
    have y0:w7.cell? ⟨w.heap.size,0,none⟩=some (I O x.line):=by simp[World.cell?,hx7]
    have y1:w7.cell? ⟨w.heap.size,1,none⟩=some (I O x.scheme):=by simp[World.cell?,hx7]
    have y2:w7.cell? ⟨w.heap.size,2,none⟩=some (I O x.kind):=by simp[World.cell?,hx7]
    obtain⟨g', e', -, -,hlg7,hc7,hf7, -⟩:=HO8.at (k:=n1) (by rw[lap,List.length_cons];omega)
    cases e'
    have eat:(A++h0::D)[n1]'(by rw[lap,List.length_cons];omega)=h0:=by subst hn1;simp
    rw[eat]at hc7;have z0:w7.cell? ⟨g5,n1*3,none⟩=some (I O h0.line):=hc7 0 _ rfl;have z1:w7.cell? ⟨g5,n1*3+1,none⟩=some (I O h0.scheme):=hc7 1 _ rfl;have z2:w7.cell? ⟨g5,n1*3+2,none⟩=some (I O h0.kind):=hc7 2 _ rfl;have v0:=hf7 (n1*3);have v1:=hf7 (n1*3+1);have v2:=hf7 (n1*3+2);have hn10:(0:Int)≤(n1:Int):=inn _;have hn11:(n1:Int)<(N:Int)+1:=by omega
    clear eat hc7 hf7 hx7 eh R1 R2 hw1 s14
    go_wp2
    go_region
    go_wp2
    refine bodyPost_end (v := .tuple #[]) (by simp[results,Tryz.results142,go_sem]) rfl ⟨rfl,.slice (some ⟨g5,0,none⟩) (N+1) c5,?_,?_,?_⟩
    ·have e:g5≠t:=by have:=HG5.1;omega
     exact(((((HA6.same (w' := w6.drew) rfl).below HP7.below (Nat.lt_succ_self t)).setO e _).setO e _).setO e _).same rfl
    ·have:=HO8.set3 x
     rw[hn1]at this;exact this.drew
    ·exact(((((HC6.stp (brf _ _).drew).trans (Chg.of_app HP7 (.inl rfl))).setO rfl _).setO rfl _).setO rfl _).stp (brf _ _).drew
  ·obtain⟨m,hm⟩:∃m,j=m+1:=⟨j - 1,by omega⟩
   have hm0:(0:Int)≤(m:Int):=inn _;have hmN:(m:Int)<(N:Int):=by omega
   have hkm:IntKind.i64.wrap ((j:Int) - 1)=(m:Int):=by rw[IntKind.wrap_i64];omega
   have hml:m<(A++D).length:=by rw[hln];omega
   obtain⟨g,e, -, -, -,hc, -, -⟩:=(HR1.below hb).at hml
   cases e
   obtain⟨y,ey⟩:∃y,(A++D)[m]=y:=⟨_,rfl⟩;rw[ey]at hc;have c0:wr.cell? ⟨g,m*3,none⟩=some (I O y.line):=hc 0 _ rfl;have fz:decide (0<j)=true:=dqt hpos;have HPB:=mh (qH hb hb.size (qQ wr 1));have HB:=mh hb
   by_cases hjn:n1<j
   ·have hy:decide (x.line<y.line)=true:=dqt (h2 y (by
     rw[← ey,List.getElem_append_right (by omega)]
     exact List.getElem_mem _))
    have HM:=mh hm;have HJ:=mh hjn;have HN2:=mh hjN;clear hc ey hpos hjn hj1 hm hb hjN h1 h2
    go_wp2_with fail
    refine wp_region_quiet_lit (by kernel_rfl) (by kernel_rfl) ?_
    try simp only[List.append_eq,List.cons_append,List.nil_append]
    repeat (go_big_quiet_step (fail))
    refine wpQuiet_nil ?_
    intro _ hwq;obtain⟨nq,hwr⟩:=hwq;subst hwr
    go_wp2
    go_roundw
    case rel=>exact⟨m,by have:=HM.out;have:=HJ.out;omega,by have:=HM.out;have:=HN2.out;omega,rfl,qH HB HB.size (qQ _ _)⟩
    case measure=>have:=HM.out;simp[intOf];omega
   ·have hjn' : j=n1:=by omega
    have hy:decide (x.line<y.line)=false:=dqf (by
     have:=h1 y (by
      rw[← ey,List.getElem_append_left (by omega)]
      exact List.getElem_mem _)
     omega)
    subst hjn'; clear hc ey hpos hjn hj1 hm hjN HPB HB
    go_wp2_with fail
    refine wp_region_quiet_lit (by kernel_rfl) (by kernel_rfl) ?_
    try simp only[List.append_eq,List.cons_append,List.nil_append]
    repeat (go_big_quiet_step (fail))
    refine wpQuiet_nil ?_
    intro _ hwq;obtain⟨nq,hwr⟩:=hwq;subst hwr;obtain⟨wq,ewq⟩:∃W,wr.drewN nq=W:=⟨_,rfl⟩;rw[ewq];have HBQ:=mh (show Below w1.heap.size w1 wq from ewq▸qH hb hb.size (qQ _ _));clear ewq hb a14 b0;have HAQ:=mh (HA1.below HBQ (by rw[HS1.out];omega));have HRQ:=mh (HR1.below HBQ);have HTQ:=mh (show t+1≤wq.heap.size from Nat.le_trans (show t+1≤w1.heap.size by rw[HS1.out];omega) HBQ.size);have q14:=HAQ.cell 14 _ rfl
    go_wp2_with (first|(at_builtin;(refine qX.append fK rfl (.tmp 32) (.tmp 34) rfl (t+1) _ (A++D) ⟨0,0,0⟩ #[I O 0,I O 0,I O 0] rfl HRQ rfl rfl HTQ (by rw[hln];omega) (by decide) ?_);intro v5 w5 hO5 hap5;obtain⟨p5,c5,rfl, -, -,hnc5, -, -⟩:=hO5.cut (n:=N+1) (by rw[lap,hln];rfl);obtain⟨g5,e5, -,hBg,hlg, -, -, -⟩:=hO5.at (k:=0) (by rw[lap];exact Nat.succ_pos _);cases e5;have A5:=HAQ.below hap5.below (Nat.lt_succ_self t);have r14:=A5.cell 14 _ rfl;have f14:=A5.frozen 14;have HA5:=mh A5;have HO5:=mh hO5;have HP5:=mh hap5;have HG5:=mh (And.intro hBg hlg);clear A5 hO5 hap5 hBg hlg)|fail)
    obtain⟨w6,ew6⟩:∃W,w5.setCell ⟨t,14,none⟩ (.slice (some ⟨g5,0,none⟩) (N+1) c5)=W:=⟨_,rfl⟩;rw[ew6];have HA6:=mh (show zD w6 t r f va _ from ew6▸HA5.setR (.slice (some ⟨g5,0,none⟩) (N+1) c5));have HO6:=mh (show qX SRn w6 129 (t+1) (.slice (some ⟨g5,0,none⟩) (N+1) c5) (A++D ++ [⟨0,0,0⟩]) from ew6▸qX.setOther HO5 (by show some g5≠some t;intro e;cases e;have:=HG5.1;omega) _);have HC6:=mh (show Chg t (.slice (some ⟨g,0,none⟩) N c) (.slice (some ⟨g5,0,none⟩) (N+1) c5) w w6 from ew6▸(((Chg.of_below (HB1.trans (HBQ.mono (by rw[HS1.out];omega)))).trans (Chg.of_app HP5 (.inr (by omega)))).setT _))
    have HX6:=mh (show w6.heap[w.heap.size]?=some (.cells #[I O x.line,I O x.scheme,I O x.kind] 129) from by
     rw[← ew6];have e1:w5.heap[w.heap.size]?=some (.cells #[I O x.line,I O x.scheme,I O x.kind] 129):=by
      rw[HP5.out.far _ (nll (show w.heap.size<w1.heap.size by rw[HS1.out];omega) HBQ.out.size) (fun e=>by have:=(HO.out _ e).2;omega),HBQ.out.block _ (by rw[HS1.out];omega)];exact HX1.out
     rw[← e1];have:t≠w.heap.size:=by omega
     simp[World.setCell,Array.getElem?_modify,this])
    have HL6:=mh (show g5<w6.heap.size from by rw[← ew6];simp[World.setCell];exact HG5.2);clear ew6 r14 f14 q14;have s14:=HA6.cell 14 _ rfl;obtain⟨q1,d1,Q1,R1⟩:=vF g5 (N+1) c5 (j+1) (by omega) hnc5;obtain⟨q2,d2,Q2,R2⟩:=vF g5 (N+1) c5 j (by omega) hnc5;have hm1:N+1 - (j+1)=D.length:=by omega
    have hm2:N+1 - j=D.length+1:=by omega
    rw[hm1]at Q1 R1;rw[hm2]at R2 Q2;have hcn:((j+1:Nat):Int)=(j:Int)+1:=by push_cast;rfl
    rw[hcn]at R1;have HQ1:=mh Q1;have HQ2:=mh (fun (h:0<D.length)=>Q2 (by omega));clear Q1 Q2 hm1 hm2 hcn;have hw1:IntKind.i64.wrap ((j:Int)+1)=(j:Int)+1:=by rw[IntKind.wrap_i64];omega
    go_region_law ((refine qX.stepShift fK (by rfl) (.tmp 44) (.tmp 50) (by rfl) (t+1) (.slice (some ⟨g5,0,none⟩) (N+1) c5) (A++D ++ [⟨0,0,0⟩]) j D.length HO6.drew (by rw[lap,hln];simp;omega) g5 rfl q1 q2 d1 d2 (by rfl) (by rfl) HQ1 HQ2 ?_;intro w7 hO7 hap7;have HO7:=mh hO7;have HP7:=mh hap7;have t14:=(HA6.same (w' := w7) (hap7.below.block t (Nat.lt_succ_self t))).cell 14 _ rfl;clear hO7 hap7))
    all_goals
     obtain⟨h0,eh⟩:=tY A D ⟨0,0,0⟩
     have HO8:=mh (show qX SRn w7 129 (t+1) (.slice (some ⟨g5,0,none⟩) (N+1) c5) (A++h0::D) from by
      have:=HO7.out;rw[← hn1,eh]at this
      exact this)
     have NG:=mh (show g5≠w.heap.size from by
      intro e
      rcases HP5.block with k|k
      ·have:=(HO g5 (by rw[← k];rfl)).2
       omega
      ·have k:some g5=some (wq.heap.size+1):=k
       cases k
       have:=HBQ.size;have:=HS1.out
       omega)
     have hx7:w7.heap[w.heap.size]?=some (.cells #[I O x.line,I O x.scheme,I O x.kind] 129):=by
      rw[HP7.out.far _ (by have:=HX6.out;exact(Array.getElem?_eq_some_iff.1 this).1) (fun e=>NG.out (by cases e;rfl))];exact HX6.out
     have y0:w7.cell? ⟨w.heap.size,0,none⟩=some (I O x.line):=by simp[World.cell?,hx7]
     have y1:w7.cell? ⟨w.heap.size,1,none⟩=some (I O x.scheme):=by simp[World.cell?,hx7]
     have y2:w7.cell? ⟨w.heap.size,2,none⟩=some (I O x.kind):=by simp[World.cell?,hx7]
     obtain⟨g', e', -, -,hlg7,hc7,hf7, -⟩:=HO8.at (k:=j) (by rw[lap,List.length_cons];omega)
     cases e'
     have eat:(A++h0::D)[j]'(by rw[lap,List.length_cons];omega)=h0:=by subst hn1;simp
     rw[eat]at hc7;have z0:w7.cell? ⟨g5,j*3,none⟩=some (I O h0.line):=hc7 0 _ rfl;have z1:w7.cell? ⟨g5,j*3+1,none⟩=some (I O h0.scheme):=hc7 1 _ rfl;have z2:w7.cell? ⟨g5,j*3+2,none⟩=some (I O h0.kind):=hc7 2 _ rfl;have v0:=hf7 (j*3);have v1:=hf7 (j*3+1);have v2:=hf7 (j*3+2);have hn10:(0:Int)≤(j:Int):=inn _;have hn11:(j:Int)<(N:Int)+1:=by omega
     clear eat hc7 hf7 hx7 eh R1 R2 hw1 s14
     go_wp2
     go_region
     go_wp2
     refine bodyPost_end (v := .tuple #[]) (by simp[results,Tryz.results142,go_sem]) rfl ⟨rfl,.slice (some ⟨g5,0,none⟩) (N+1) c5,?_,?_,?_⟩
     ·have e:g5≠t:=by have:=HG5.1;omega
      exact(((((HA6.same (w' := w6.drew) rfl).below HP7.below (Nat.lt_succ_self t)).setO e _).setO e _).setO e _).same rfl
     ·have:=HO8.set3 x
      rw[hn1]at this;exact this.drew
     ·exact(((((HC6.stp (brf _ _).drew).trans (Chg.of_app HP7 (.inl rfl))).setO rfl _).setO rfl _).setO rfl _).stp (brf _ _).drew
end Go.Proofs.YtefcalgjnkigjaaGreat
namespace Go.Proofs.YtefcalgjnkigjaaGreat.As
open Sc Go.RowKit
/-! ### amounts by brackets are never negative -/
theorem fX {s:Sch}(h:zY s=0)(p:Int):0≤uK s p:=by
 unfold uK
 split
 ·omega
 ·have hb:=(bQ h).2.2.2.2.2.1
  have:∀k,k≤s.br.length→0≤amt s.br p k:=by
   intro k
   induction k with
   | zero=>intro _;simp[amt]
   | succ k ih =>
     intro hk;have:=ih (by omega);unfold amt;rw[List.getElem?_eq_getElem (by omega)];simp only;have r:=(gJ (show k<s.br.length by omega) (yX (show k+1≤s.br.length by omega) (uDA hb))).2.2.1;have:=Int.mul_nonneg (show(0:Int)≤max 0 (min p s.br[k].up - upB s.br k) by omega) r;omega
  have:=this _ mle;omega
theorem qEA {l:YLaw}{f:FarmF}(hl:YOk l)(hf:vP l f){k:Nat}{s:Sch}(hk:l.sch[k]?=some s):AwOk (uF l f k s) :=
 kQA hl hf hk fun p _ _=>fX (hl.one hk) p
theorem ySA {l:YLaw}{f:FarmF}(hl:YOk l)(hf:vP l f){a:Awd}(ha:a∈qC l f):AwOk a∧a.farm=f.farm∧a.capped=0∧a.due=0:=by
 obtain⟨k,s,_,hk,_,rfl⟩:=bC.1 ha;exact⟨qEA hl hf hk,rfl,rfl,rfl⟩
/-! ### reasons -/
theorem sS {l:YLaw}{x:LineF}{i n:Nat}{r:Rsn}:r∈yM l x i n↔∃k s,k<n∧l.sch[k]?=some s∧zW x s=true∧(det (factOf x k) l.width).2≠0∧r=⟨i,s.num,(det (factOf x k) l.width).2⟩:=by
 induction n with
 | zero=>simp[yM]
 | succ n ih =>
   unfold yM gC;rw[List.mem_append,ih]
   constructor
   ·rintro (⟨k,s,h1,h⟩|h)
    ·exact⟨k,s,by omega,h⟩
    ·cases e:l.sch[n]? with
     | none=>rw[e]at h;simp at h
     | some s =>
       rw[e]at h;simp only at h
       split at h
       ·rename_i hs
        exact⟨n,s,by omega,e,hs.1,hs.2,List.mem_singleton.1 h⟩
       ·simp at h
   ·rintro ⟨k,s,h1,h2,h3,h4,h5⟩
    by_cases hk:k<n
    ·exact .inl ⟨k,s,hk,h2,h3,h4,h5⟩
    ·obtain rfl:k=n:=by omega
     right
     rw[h2];simp only;rw[if_pos ⟨h3,h4⟩];exact List.mem_singleton.2 h5
/-! ### the error of a farm -/
theorem hXA (l:YLaw)(f:FarmF):(qY (qC l f)).length≤l.sch.length:=by
 unfold qY;rw[List.length_map];exact uN l f _
theorem YOk.len {l:YLaw}(h:YOk l):l.sch.length≤16:=(wD h.sch).len
theorem pN {l:YLaw}{F:List FarmF}(h:FOk l F){f:FarmF}(hf:f∈F):farmErr l f=0∨farmErr l f=67:=by
 unfold farmErr;rw[if_neg (by rw[(h.one hf).chk];decide)];unfold Ce.farmErr;have:=hXA l f;have:=h.law.len;rw[if_neg (by rw[Ce.chk_zero.2 h.law.deg];decide),if_neg (by rw[En.money_iff.2 h.law.cap];decide),if_neg (by omega)];unfold Ce.sumErr
 split
 ·exact .inr rfl
 ·exact .inl rfl
theorem fS {l:YLaw}{F:List FarmF}(h:FOk l F):∀G:List FarmF,(∀g∈G,g∈F)→jL l G=0∨jL l G=67
 | [],_ => .inl rfl
 | g::G,hG=>by
   unfold jL
   split
   ·rcases pN h (hG g List.mem_cons_self) with e|e
    ·rename_i hne;exact absurd e hne
    ·exact .inr e
   ·exact fS h G fun x hx=>hG x (List.mem_cons_of_mem _ hx)
theorem kC {l:YLaw}:∀(G H:List FarmF),jL l (G++H)=if jL l G≠0 then jL l G else jL l H
 | [],H=>by simp[jL]
 | g::G,H=>by
   show(if farmErr l g≠0 then farmErr l g else jL l (G++H))=if (if farmErr l g≠0 then farmErr l g else jL l G)≠0 then (if farmErr l g≠0 then farmErr l g else jL l G) else jL l H
   by_cases h:farmErr l g≠0
   ·rw[if_pos h,if_pos h,if_pos h]
   ·rw[if_neg h,if_neg h,kC G H]
/-! ### what is capped -/
theorem xWA {l:YLaw}{f:FarmF}(he:farmErr l f=0):Ce.Fine l.deg l.cap (qY (qC l f)):=by
 unfold farmErr at he
 split at he
 ·rename_i h;exact absurd he h
 ·exact Ce.fine_of he
theorem wL (A:List Awd)(c:List Int):(jT A c).length=A.length:=by unfold jT;simp
theorem dY (A:List Awd)(c:List Int)(i:Nat)(h:i<(jT A c).length)(h' : i<A.length):(jT A c)[i]={ A[i] with capped:=c.getD i 0 }:=by
 simp[jT]
theorem xQ (A:List Awd)(c:List Int):(vY A c).length=A.length:=by unfold vY;simp
theorem vD (A:List Awd)(c:List Int)(i:Nat)(h:i<(vY A c).length)(h' : i<A.length):(vY A c)[i]={ A[i] with due:=c.getD i 0 }:=by
 simp[vY]
theorem uJA (A:List Awd)(i:Nat)(h:i<A.length):(qY A).getD i 0=A[i].timely:=by
 unfold qY;simp[h]
theorem kVA (A:List Awd)(i:Nat)(h:i<A.length):(qP A).getD i 0=A[i].capped:=by
 unfold qP;simp[h]
structure AwFine (l:YLaw) (f:FarmF) (a:Awd):Prop where
 ok:AwOk a
 farm:a.farm=f.farm
 c0:0≤a.capped
 ct:a.capped≤a.timely
 due:a.due=0
theorem gM {l:YLaw}{f:FarmF}(he:farmErr l f=0):(jV l f).length=(qC l f).length:=by
 unfold jV;rw[if_neg (by omega),wL]
theorem dP {l:YLaw}{f:FarmF}(he:farmErr l f=0)(i:Nat)(h:i<(jV l f).length)(h' : i<(qC l f).length) :
  (jV l f)[i]={ (qC l f)[i] with capped:=(Ce.farm l.deg l.cap (qY (qC l f))).getD i 0 }:=by
 have e:jV l f=jT (qC l f) (Ce.farm l.deg l.cap (qY (qC l f))):=by unfold jV;rw[if_neg (by omega)]
 have:∀(X:List Awd) (hX:i<X.length),X=jT (qC l f) (Ce.farm l.deg l.cap (qY (qC l f)))→X[i]={ (qC l f)[i] with capped:=(Ce.farm l.deg l.cap (qY (qC l f))).getD i 0 }:=by
  rintro X hX rfl;exact dY _ _ i hX h'
 exact this _ h e
theorem xJ {l:YLaw}{f:FarmF}(hl:YOk l)(hf:vP l f){a:Awd}(ha:a∈jV l f):AwFine l f a:=by
 by_cases he:farmErr l f=0
 ·obtain⟨i,hi,rfl⟩:=List.mem_iff_getElem.1 ha
  have hi' : i<(qC l f).length:=by rw[← gM he];exact hi
  rw[dP he i hi hi'];obtain⟨h1,h2,h3,h4⟩:=ySA hl hf (List.getElem_mem hi');have hb:=(xWA he).farm_bd i (by unfold qY;rw[List.length_map];exact hi');rw[uJA _ i hi']at hb;exact⟨⟨h1.n0,h1.nd,h1.d1,h1.p0,h1.pn,h1.r0,h1.r1,h1.t0,h1.tr⟩,h2,hb.1,hb.2,h4⟩
 ·unfold jV at ha
  rw[if_pos he]at ha
  cases ha
theorem jFA {l:YLaw}(hl:YOk l)(f:FarmF):(jV l f).Pairwise fun a b=>a.scheme<b.scheme:=by
 by_cases he:farmErr l f=0
 ·rw[List.pairwise_iff_getElem]
  intro i j hi hj hij;have hi' : i<(qC l f).length:=by rw[← gM he];exact hi
  have hj' : j<(qC l f).length:=by rw[← gM he];exact hj
  rw[dP he i hi hi', dP he j hj hj'];exact List.pairwise_iff_getElem.1 (lV hl f l.sch.length) i j hi' hj' hij
 ·unfold jV
  rw[if_pos he];exact List.Pairwise.nil
/-! ### all farms -/
theorem dE {l:YLaw}{F:List FarmF}{a:Awd}:a∈jY l F↔∃f∈F,a∈jV l f:=by unfold jY;exact List.mem_flatMap
def awLt (a b:Awd):Prop:=a.farm<b.farm∨a.farm=b.farm∧a.scheme<b.scheme
theorem tR {F:List FarmF}(h:∀i (h:i+1<F.length),F[i].farm<F[i+1].farm):F.Pairwise fun f g=>f.farm<g.farm:=by
 rw[List.pairwise_iff_getElem];intro i j hi hj hij;obtain⟨k,rfl⟩:∃k,j=i+1+k:=⟨j - (i+1),by omega⟩;clear hij
 induction k with
 | zero=>exact h i hj
 | succ k ih =>
   have h1:=ih (by omega);have h2:=h (i+1+k) hj;exact Int.lt_trans h1 h2
theorem sH {l:YLaw}(hl:YOk l):∀{F:List FarmF},(∀f∈F,vP l f)→(F.Pairwise fun f g=>f.farm<g.farm)→(jY l F).Pairwise awLt
 | [],_,_=>List.Pairwise.nil
 | f::F,hF,hp=>by
   rw[List.pairwise_cons]at hp
   show(jV l f++jY l F).Pairwise awLt
   rw[List.pairwise_append];have hf:=hF f List.mem_cons_self;refine⟨(jFA hl f).imp_of_mem fun ha hb h => .inr ⟨?_,h⟩,sH hl (fun g hg=>hF g (List.mem_cons_of_mem _ hg)) hp.2,fun a ha b hb => .inl ?_⟩
   ·rw[(xJ hl hf ha).farm,(xJ hl hf hb).farm]
   ·obtain⟨g,hg,hb⟩:=dE.1 hb
    rw[(xJ hl hf ha).farm,(xJ hl (hF g (List.mem_cons_of_mem _ hg)) hb).farm];exact hp.1 g hg
theorem dC (l:YLaw)(f:FarmF):(jV l f).length≤l.sch.length:=by
 by_cases he:farmErr l f=0
 ·rw[gM he];exact uN l f _
 ·unfold jV;rw[if_pos he];simp
theorem uU (l:YLaw):∀F:List FarmF,(jY l F).length≤F.length*l.sch.length
 | []=>by simp[jY]
 | f::F=>by
   have h1:=dC l f;have h2:=uU l F
   show(jV l f++jY l F).length≤_
   rw[lap,List.length_cons,Nat.add_mul];omega
theorem fT {l:YLaw}{F:List FarmF}(h:FOk l F)(h64:(jY l F).length≤64):En.Good l.env l.unit (qP (jY l F)):=by
 refine⟨h.law.env.1,h.law.env.2,h.law.unit.1,h.law.unit.2,by unfold qP;rw[List.length_map];exact h64,fun x hx=>?_⟩
 obtain⟨a,ha,rfl⟩:=List.mem_map.1 hx;obtain⟨f,hf,ha⟩:=dE.1 ha;have k:=xJ h.law (h.farm f hf) ha;have:=k.c0;have:=k.ct;have:=k.ok.tr;have:=k.ok.r1;exact⟨by omega,by omega⟩
theorem tL {l:YLaw}{F:List FarmF}(h:FOk l F):(jR l F=67∧jL l F=67)∨(jL l F=0∧64<(jY l F).length∧jR l F=1)∨(jL l F=0∧(jY l F).length≤64∧jR l F=0):=by
 unfold jR;rw[if_neg (by rw[h.chk];decide)]
 rcases fS h F (fun _ h=>h) with e|e
 ·rw[if_neg (by omega)]
  by_cases h64:64<(jY l F).length
  ·rw[if_pos h64];exact .inr (.inl ⟨e,h64,rfl⟩)
  ·rw[if_neg h64]
   exact .inr (.inr ⟨e,by omega,En.err_of (fT h (by omega))⟩)
 ·rw[if_pos (by omega)];exact .inl ⟨e,e⟩
theorem yQA (A:List Awd)(a:Awd):total (A ++ [a])=total A+a.due:=by unfold total;rw[List.map_append,List.map_singleton,Sh.sum_snoc]
theorem kGA {A:List Awd}{c:List Int}(h:c.length=A.length):(vY A c).map (·.due)=c:=by
 apply List.ext_getElem
 ·rw[List.length_map,xQ,h]
 ·intro i h1 h2
  rw[List.getElem_map,vD A c i _ (by omega)]
  simp[h2]
theorem zBA {A:List Awd}{c:List Int}:qP (vY A c)=qP A:=by
 unfold qP
 apply List.ext_getElem
 ·rw[List.length_map,List.length_map,xQ]
 ·intro i h1 h2
  rw[List.length_map]at h1 h2;rw[List.getElem_map,List.getElem_map,vD A c i h1 h2]
structure Falls (l:YLaw) (A:List Awd):Prop where
 each:∀a∈A,a.det≤a.decl∧a.paid≤a.det∧a.timely≤a.rated∧a.capped≤a.timely∧a.due≤a.capped∧0≤a.due∧0≤a.paid∧0≤a.capped∧a.capped≤68719476736
 asc:A.Pairwise awLt
 len:A.length≤64
 sum:total A≤l.env
 sum0:0≤total A
 near:En.usum l.unit (qP A)≤l.env / l.unit∨l.env - total A<l.unit
theorem falls {l:YLaw}{F:List FarmF}(h:FOk l F)(h0:jR l F=0):Falls l (yP l F):=by
 rcases tL h with⟨e,_⟩|⟨_,_,e⟩|⟨e1,e2,_⟩
 ·omega
 ·omega
 have G:=fT h e2;have K:=G.keeps;have eA:yP l F=vY (jY l F) (En.scale l.env l.unit (qP (jY l F))):=by unfold yP;rw[if_neg (by omega)]
 have cl:(qP (jY l F)).length=(jY l F).length:=by unfold qP;simp
 have hlen:(En.scale l.env l.unit (qP (jY l F))).length=(jY l F).length:=by rw[K.len,cl]
 have tot:total (yP l F)=Sh.sum (En.scale l.env l.unit (qP (jY l F))):=by unfold total;rw[eA,kGA hlen]
 have each:∀a∈yP l F,a.det≤a.decl∧a.paid≤a.det∧a.timely≤a.rated∧a.capped≤a.timely∧a.due≤a.capped∧0≤a.due∧0≤a.paid∧0≤a.capped∧a.capped≤68719476736:=by
  rw[eA];intro a ha;obtain⟨i,hi,rfl⟩:=List.mem_iff_getElem.1 ha;have hi' : i<(jY l F).length:=by rw[xQ]at hi;exact hi
  rw[vD _ _ i hi hi'];obtain⟨f,hf,hm⟩:=dE.1 (List.getElem_mem hi');have k:=xJ h.law (h.farm f hf) hm;have b:=K.at_ i (by rw[cl];exact hi');rw[kVA _ i hi']at b;have:=k.ok.tr;have:=k.ok.r1;have:=k.ct;exact⟨k.ok.nd,k.ok.pn,k.ok.tr,k.ct,b.2.1,b.1,k.ok.p0,k.c0,by show(jY l F)[i].capped≤_;omega⟩
 refine⟨each,?_,by rw[eA,xQ];exact e2,by rw[tot];exact K.sum,?_,?_⟩
 ·rw[eA,List.pairwise_iff_getElem]
  intro i j hi hj hij;have hi' : i<(jY l F).length:=by rw[xQ]at hi;exact hi
  have hj' : j<(jY l F).length:=by rw[xQ]at hj;exact hj
  rw[vD _ _ i hi hi', vD _ _ j hj hj'];exact List.pairwise_iff_getElem.1 (sH h.law h.farm (tR h.asc)) i j hi' hj' hij
 ·unfold total
  refine Sh.sum_nonneg fun x hx=>?_
  obtain⟨a,ha,rfl⟩:=List.mem_map.1 hx;exact(each a ha).2.2.2.2.2.1
 ·rw[tot,eA,zBA]
  by_cases hq:l.env / l.unit<En.usum l.unit (qP (jY l F))
  ·right
   apply K.near
   unfold En.scaled;rw[En.err_of G]
   simp[hq]
  ·left;omega
def vH (l:YLaw) (f:FarmF) (k i:Nat):Nat→List Rsn
 | 0 => []
 | n+1=>vH l f k i n++zV l f n (if n<i then k+1 else k)
def xV (l:YLaw) (f:FarmF) (k i:Nat):List Rsn:=vH l f k i f.lines.length
def vS (l:YLaw) (f:FarmF) (k i:Nat):Nat→List Rsn
 | 0 => []
 | n+1=>vS l f k i n++(if i≤n then zV l f n k else [])
theorem xDA {l:YLaw}{f:FarmF}{k i n:Nat}{y:Rsn}(h:y∈vH l f k i n):y.line<n:=by
 induction n with
 | zero=>cases h
 | succ n ih =>
   rcases List.mem_append.1 h with h|h
   ·have:=ih h;omega
   ·unfold zV at h
    split at h
    ·obtain⟨_,_,_,_,_,_,rfl⟩:=sS.1 h
     show(n:Int)<_;omega
    ·cases h
theorem bT {l:YLaw}{f:FarmF}{k n:Nat}{y:Rsn}(h:y∈zV l f n k):y.line=n:=by
 unfold zV at h
 split at h
 ·obtain⟨_,_,_,_,_,_,rfl⟩:=sS.1 h;rfl
 ·cases h
theorem jBA {l:YLaw}{f:FarmF}{k i n:Nat}{y:Rsn}(h:y∈vS l f k i n):(i:Int)≤y.line:=by
 induction n with
 | zero=>cases h
 | succ n ih =>
   rcases List.mem_append.1 h with h|h
   ·exact ih h
   ·split at h
    ·have:=bT h;omega
    ·cases h
theorem dZ (l:YLaw)(f:FarmF)(k:Nat){i n:Nat}(h:i≤n):vH l f k i n=vH l f k i i++vS l f k i n:=by
 induction n with
 | zero =>
   obtain rfl:i=0:=by omega
   rfl
 | succ n ih =>
   by_cases hi:i≤n
   ·show vH l f k i n++_=_++(vS l f k i n++_)
    rw[ih hi,if_neg (by omega),if_pos hi,List.append_assoc]
   ·obtain rfl:i=n+1:=by omega
    have e:∀m,m≤n+1→vS l f k (n+1) m = []:=by
     intro m
     induction m with
     | zero=>intro _;rfl
     | succ m ih=>intro hm;show vS l f k (n+1) m++_ = [];rw[ih (by omega),if_neg (by omega)];rfl
    rw[e _ mle,List.append_nil]
theorem fG (l:YLaw)(f:FarmF)(k:Nat){i j:Nat}:∀{n:Nat},n≤i→n≤j→vH l f k i n=vH l f k j n
 | 0,_,_=>rfl
 | n+1,h1,h2=>by
   show vH l f k i n++_=vH l f k j n++_
   rw[fG l f k (i:=i) (j:=j) (n:=n) (by omega) (by omega),if_pos (by omega),if_pos (by omega)]
theorem mY (l:YLaw)(f:FarmF)(k:Nat){i n:Nat}(h:i<n):vS l f k i n=zV l f i k++vS l f k (i+1) n:=by
 induction n with
 | zero=>omega
 | succ n ih =>
   by_cases hi:i<n
   ·show vS l f k i n++_=_++(vS l f k (i+1) n++_)
    rw[ih hi,if_pos (by omega),if_pos (by omega),List.append_assoc]
   ·obtain rfl:i=n:=by omega
    have e:∀(c m:Nat),m≤c→vS l f k c m = []:=by
     intro c m
     induction m with
     | zero=>intro _;rfl
     | succ m ih=>intro hm;show vS l f k c m++_ = [];rw[ih (by omega),if_neg (by omega)];rfl
    show vS l f k i i++(if i≤i then zV l f i k else [])=_++(vS l f k (i+1) i++(if i+1≤i then _ else []))
    rw[e i i mle,e (i+1) i (by omega),if_pos mle,if_neg (by omega)]
    simp
theorem bR {l:YLaw}{f:FarmF}{k i:Nat}{x:LineF}{s:Sch}(hx:f.lines[i]?=some x)(hs:l.sch[k]?=some s) :
  zV l f i (k+1)=zV l f i k++(if zW x s=true∧(det (factOf x k) l.width).2≠0 then [⟨i,s.num,(det (factOf x k) l.width).2⟩] else []):=by
 unfold zV;rw[hx]
 show yM l x i k++gC l x i k=_
 unfold gC;rw[hs]
theorem sB {l:YLaw}{f:FarmF}{k i:Nat}{x:LineF}{s:Sch}(hi:i<f.lines.length)(hx:f.lines[i]?=some x)(hs:l.sch[k]?=some s)(h:¬(zW x s=true∧(det (factOf x k) l.width).2≠0)) :
  xV l f k (i+1)=xV l f k i:=by
 unfold xV;rw[dZ l f k (show i+1≤f.lines.length from hi),dZ l f k (show i≤f.lines.length by omega),mY l f k hi]
 show(vH l f k (i+1) i++zV l f i (if i<i+1 then k+1 else k))++_=_
 rw[if_pos (by omega),bR hx hs,if_neg h,List.append_nil,fG l f k (show i≤i+1 by omega) (Nat.le_refl i),List.append_assoc]
theorem xNA {l:YLaw}{f:FarmF}{k i:Nat}{x:LineF}{s:Sch}(hi:i<f.lines.length)(hx:f.lines[i]?=some x)(hs:l.sch[k]?=some s)(h:zW x s=true∧(det (factOf x k) l.width).2≠0) :
  ∃A D:List Rsn,xV l f k i=A++D∧xV l f k (i+1)=A++⟨i,s.num,(det (factOf x k) l.width).2⟩::D∧(∀y∈A,y.line≤i)∧(∀y∈D,(i:Int)<y.line):=by
 refine⟨vH l f k i i++zV l f i k,vS l f k (i+1) f.lines.length,?_,?_,fun y hy=>?_,fun y hy=>?_⟩
 ·unfold xV
  rw[dZ l f k (show i≤f.lines.length by omega),mY l f k hi,List.append_assoc]
 ·unfold xV
  rw[dZ l f k (show i+1≤f.lines.length from hi)]
  show(vH l f k (i+1) i++zV l f i (if i<i+1 then k+1 else k))++_=_
  rw[if_pos (by omega),bR hx hs,if_pos h,fG l f k (show i≤i+1 by omega) (Nat.le_refl i)]
  simp
 ·rcases List.mem_append.1 hy with h|h
  ·have:=xDA h;omega
  ·rw[bT h];exact Int.le_refl _
 ·have:=jBA hy;omega
theorem kNA (l:YLaw)(f:FarmF)(k:Nat):xV l f k f.lines.length=xV l f (k+1) 0:=by
 unfold xV;have e:∀n,n≤f.lines.length→vH l f k f.lines.length n=vH l f (k+1) 0 n:=by
  intro n
  induction n with
  | zero=>intro _;rfl
  | succ n ih =>
    intro h
    show vH l f k f.lines.length n++_=vH l f (k+1) 0 n++_
    rw[ih (by omega),if_pos (by omega),if_neg (by omega)]
 exact e _ mle
theorem xMA (l:YLaw)(f:FarmF):xV l f 0 0 = []:=by
 unfold xV;have e:∀n,vH l f 0 0 n = []:=by
  intro n
  induction n with
  | zero=>rfl
  | succ n ih =>
    show vH l f 0 0 n++zV l f n (if n<0 then 0+1 else 0) = []
    rw[ih,if_neg (by omega)];unfold zV yM
    split<;>rfl
 exact e _
theorem xFA (l:YLaw)(f:FarmF):xV l f l.sch.length 0=xN l f:=by
 unfold xV xN;have e:∀n,vH l f l.sch.length 0 n=zZ l f n:=by
  intro n
  induction n with
  | zero=>rfl
  | succ n ih =>
    show vH l f l.sch.length 0 n++zV l f n (if n<0 then _ else l.sch.length)=_
    rw[ih,if_neg (by omega)]
    rfl
 exact e _
theorem bY (l:YLaw)(x:LineF)(i k:Nat):(yM l x i k).length≤k:=by
 induction k with
 | zero=>simp[yM]
 | succ k ih =>
   unfold yM gC;rw[lap]
   split
   ·split
    ·simp;omega
    ·simp;omega
   ·simp;omega
theorem kMA {l:YLaw}{f:FarmF}{k i:Nat}(hk:k≤16)(hf:f.lines.length≤20):(xV l f k i).length≤340:=by
 unfold xV;have e:∀n,(vH l f k i n).length≤n*17:=by
  intro n
  induction n with
  | zero=>simp[vH]
  | succ n ih =>
    show(vH l f k i n++zV l f n (if n<i then k+1 else k)).length≤_
    rw[lap];have:(zV l f n (if n<i then k+1 else k)).length≤17:=by
     unfold zV
     split
     ·exact Nat.le_trans (bY _ _ _ _) (by split<;>omega)
     ·simp
    omega
 have:=e f.lines.length;omega
/-! ### sums, a line at a time -/
theorem tW {s:Sch}{K:List LineF}{k:Nat}(hk:k<K.length):yQ s (K.take (k+1))=yQ s (K.take k)+if zW K[k] s then K[k].decl else 0:=by
 unfold yQ;rw[tsg hk,List.map_append,List.map_singleton,Sh.sum_snoc]
theorem tU {l:YLaw}{j:Nat}{s:Sch}{K:List LineF}{k:Nat}(hk:k<K.length):yY l j s (K.take (k+1))=yY l j s (K.take k)+if zW K[k] s then (det (factOf K[k] j) l.width).1 else 0:=by
 unfold yY;rw[tsg hk,List.map_append,List.map_singleton,Sh.sum_snoc]
theorem cA {s:Sch}{K:List LineF}{k:Nat}(hk:k<K.length):kM s (K.take (k+1))=(kM s (K.take k)||zW K[k] s):=by
 unfold kM;rw[tsg hk,List.any_append]
 simp
theorem dJ {K:List LineF}(h:∀x∈K,0≤x.decl)(k:Nat):jZ (K.take k)≤jZ K:=by
 have e:jZ K=jZ (K.take k)+jZ (K.drop k):=by
  unfold jZ;rw[← Sh.sum_append,← List.map_append,List.take_append_drop]
 have:0≤jZ (K.drop k):=Sh.sum_nonneg fun y hy=>by
  obtain⟨x,hx,rfl⟩:=List.mem_map.1 hy;exact h x (List.mem_of_mem_drop hx)
 omega
theorem rR {l:YLaw}{f:FarmF}(hl:YOk l)(hf:vP l f){j:Nat}{s:Sch}(hs:l.sch[j]?=some s)(k:Nat) :
  0≤yY l j s (f.lines.take k)∧yY l j s (f.lines.take k)≤yQ s (f.lines.take k)∧yQ s (f.lines.take k)≤268435456:=by
 have hx:∀x∈f.lines.take k,vX l x:=fun x h=>hf.line x (List.mem_of_mem_take h)
 have h1:=dG hl hx hs;have h2:=dW (s:=s) (K:=f.lines.take k) fun x h=>(hx x h).d0
 have h3:=dJ (K:=f.lines) (fun x h=>(hf.line x h).d0) k;have h4:=hf.sum;omega
end Go.Proofs.YtefcalgjnkigjaaGreat.As
namespace Go.Proofs.YtefcalgjnkigjaaGreat
open Go.RowKit
theorem dD (n:Int)(w:World):Calls Tryz.prog 184 #[I O n] w fun e w' => e = .returned (.bool (As.dayB n))∧w=w' :=by
 by_cases h1:0≤n
 rotate_left
 ·rw[show As.dayB n=false from by unfold As.dayB;simp[h1]]
  go_enter Tryz.func184,Tryz.ntmps184
  go_wp2
  go_ret
  exact⟨rfl,rfl⟩
 by_cases h2:n≤36864
 rotate_left
 ·rw[show As.dayB n=false from by unfold As.dayB;simp[h2]]
  go_enter Tryz.func184,Tryz.ntmps184
  go_wp2
  go_ret
  exact⟨rfl,rfl⟩
 ·rw[show As.dayB n=true from by unfold As.dayB;simp[h1,h2]]
  go_enter Tryz.func184,Tryz.ntmps184
  go_wp2
  go_ret
  exact⟨rfl,rfl⟩
theorem bU (d l m:Int)(w:World):Calls Tryz.prog 49 #[.agg #[I O d,I O l,I O m]] w fun e w' => e = .returned (I O (As.chkL ⟨d,l,m⟩))∧Below w.heap.size w w' :=by
 have HA:=mh (qK mle (brf w.heap.size w) (.cells #[I O d,I O l,I O m] 26));obtain⟨v,ev⟩:∃v,As.chkL ⟨d,l,m⟩=v:=⟨_,rfl⟩;have hv:(d<0∧v=66)∨(¬d<0∧l<d∧v=66)∨(¬d<0∧¬l<d∧36864<l∧v=66)∨(¬d<0∧¬l<d∧¬36864<l∧m<0∧v=66)∨(¬d<0∧¬l<d∧¬36864<l∧¬m<0∧1000<m∧v=66)∨(¬d<0∧¬l<d∧¬36864<l∧¬m<0∧¬1000<m∧v=0):=by
  rw[← ev];unfold As.chkL;simp only
  split<;>omega
 rw[ev];clear ev
 rcases hv with⟨h1,rfl⟩|⟨h1,h2,rfl⟩|⟨h1,h2,h3,rfl⟩|⟨h1,h2,h3,h4,rfl⟩|⟨h1,h2,h3,h4,h5,rfl⟩|⟨h1,h2,h3,h4,h5,rfl⟩
 all_goals
  go_enter Tryz.func49,Tryz.ntmps49
  go_wp2
  go_ret
  exact⟨rfl,HA.out⟩
theorem ret_i {a b:Int}(h:a=b):Ending.returned (I O a) = .returned (I O b):=by rw[h]
theorem fA (d:Int)(w:World)(d0:0≤d)(d1:d≤36865):Calls Tryz.prog 213 #[I O d] w fun e w' => e = .returned (I O (As.bef d))∧w=w' :=by
 have EV:=mh (show As.bef d=d / 7*5+min (d % 7) 5 from rfl)
 go_enter Tryz.func213,Tryz.ntmps213
 go_wp2
 all_goals
  go_ret
  exact⟨ret_i (by rw[EV.out]<;>omega),rfl⟩
theorem As.days_cases (a b:Int):(As.dayB a=false∧As.days a b=0)∨(As.dayB a=true∧As.dayB b=false∧As.days a b=0)∨(As.dayB a=true∧As.dayB b=true∧b≤a∧As.days a b=0) ∨
  (As.dayB a=true∧As.dayB b=true∧¬b≤a∧(0≤a∧b≤36864)∧As.days a b=As.bef (b+1) - As.bef (a+1)):=by
 have ha:As.dayB a=true↔0≤a∧a≤36864:=by unfold As.dayB;simp
 have hb:As.dayB b=true↔0≤b∧b≤36864:=by unfold As.dayB;simp
 unfold As.days
 cases h1:As.dayB a
 ·exact .inl ⟨rfl,by simp⟩
 cases h2:As.dayB b
 ·exact .inr (.inl ⟨rfl,rfl,by simp⟩)
 by_cases h:b≤a
 ·exact .inr (.inr (.inl ⟨rfl,rfl,h,by rw[if_pos (.inr (.inr h))]⟩))
 ·have:=ha.1 h1
  have:=hb.1 h2;exact .inr (.inr (.inr ⟨rfl,rfl,h,by omega,by rw[if_neg];simp[h]⟩))
theorem jWA (a b:Int)(w:World):Calls Tryz.prog 186 #[I O a,I O b] w fun e w' => e = .returned (I O (As.days a b))∧w=w' :=by
 have D1:=mh (fun (W:World)=>dD a W);have D2:=mh (fun (W:World)=>dD b W)
 rcases As.days_cases a b with⟨h1,h⟩|⟨h1,h2,h⟩|⟨h1,h2,h3,h⟩|⟨h1,h2,h3,h4,h⟩
 ·rw[h];rw[h1]at D1
  go_enter Tryz.func186,Tryz.ntmps186
  go_wp2_with (first|(go_at_call 184;(with_reducible refine cmo (D1.out _) ?_);rintro e w1 ⟨rfl,rfl⟩)|(go_at_call 184;(with_reducible refine cmo (D2.out _) ?_);rintro e w1 ⟨rfl,rfl⟩))
  go_ret
  exact⟨rfl,rfl⟩
 ·rw[h];rw[h1]at D1;rw[h2]at D2
  go_enter Tryz.func186,Tryz.ntmps186
  go_wp2_with (first|(go_at_call 184;(with_reducible refine cmo (D1.out _) ?_);rintro e w1 ⟨rfl,rfl⟩)|(go_at_call 184;(with_reducible refine cmo (D2.out _) ?_);rintro e w1 ⟨rfl,rfl⟩))
  go_ret
  exact⟨rfl,rfl⟩
 ·rw[h];rw[h1]at D1;rw[h2]at D2
  go_enter Tryz.func186,Tryz.ntmps186
  go_wp2_with (first|(go_at_call 184;(with_reducible refine cmo (D1.out _) ?_);rintro e w1 ⟨rfl,rfl⟩)|(go_at_call 184;(with_reducible refine cmo (D2.out _) ?_);rintro e w1 ⟨rfl,rfl⟩))
  go_ret
  exact⟨rfl,rfl⟩
 ·rw[h];rw[h1]at D1;rw[h2]at D2
  have w1:IntKind.i64.wrap (b+1)=b+1:=by rw[IntKind.wrap_i64];omega
  have w2:IntKind.i64.wrap (a+1)=a+1:=by rw[IntKind.wrap_i64];omega
  have B1:=mh (fun (W:World)=>fA (b+1) W (by omega) (by omega));have B2:=mh (fun (W:World)=>fA (a+1) W (by omega) (by omega));have hx:0≤As.bef (b+1)∧As.bef (b+1)≤36865:=by unfold As.bef;omega
  have hy:0≤As.bef (a+1)∧As.bef (a+1)≤36865:=by unfold As.bef;omega
  obtain⟨X,eX⟩:∃X,As.bef (b+1)=X:=⟨_,rfl⟩;obtain⟨Y,eY⟩:∃Y,As.bef (a+1)=Y:=⟨_,rfl⟩;rw[eX]at hx B1 ⊢;rw[eY]at hy B2 ⊢;have w3:IntKind.i64.wrap (X - Y)=X - Y:=by rw[IntKind.wrap_i64];omega
  clear h h4 eX eY
  go_enter Tryz.func186,Tryz.ntmps186
  go_wp2_with (first|(go_at_call 184;(with_reducible refine cmo (D1.out _) ?_);rintro e w1 ⟨rfl,rfl⟩)|(go_at_call 184;(with_reducible refine cmo (D2.out _) ?_);rintro e w1 ⟨rfl,rfl⟩)|(go_at_call 213;(with_reducible refine cmo (B1.out _) ?_);rintro e w1 ⟨rfl,rfl⟩)|(go_at_call 213;(with_reducible refine cmo (B2.out _) ?_);rintro e w1 ⟨rfl,rfl⟩))
  go_ret
  exact⟨rfl,rfl⟩
theorem gQ (n:Int)(w:World):Calls Tryz.prog 181 #[I O n] w fun e w' => e = .returned (.bool (Re.area n))∧w=w' :=by
 by_cases h:0≤n
 ·by_cases h2:n≤268435456
  ·rw[Re.area_iff.2 ⟨h,h2⟩]
   go_enter Tryz.func181,Tryz.ntmps181
   go_wp2
   go_ret
   exact⟨rfl,rfl⟩
  ·rw[Re.area_not.2 (.inr (by omega))]
   go_enter Tryz.func181,Tryz.ntmps181
   go_wp2
   go_ret
   exact⟨rfl,rfl⟩
 ·rw[Re.area_not.2 (.inl (by omega))]
  go_enter Tryz.func181,Tryz.ntmps181
  go_wp2
  go_ret
  exact⟨rfl,rfl⟩
theorem zC (n:Int)(w:World):Calls Tryz.prog 148 #[I O n] w fun e w' => e = .returned (.bool (Re.area n))∧w=w' :=by
 by_cases h:0≤n
 ·by_cases h2:n≤268435456
  ·rw[Re.area_iff.2 ⟨h,h2⟩]
   go_enter Tryz.func148,Tryz.ntmps148
   go_wp2
   go_ret
   exact⟨rfl,rfl⟩
  ·rw[Re.area_not.2 (.inr (by omega))]
   go_enter Tryz.func148,Tryz.ntmps148
   go_wp2
   go_ret
   exact⟨rfl,rfl⟩
 ·rw[Re.area_not.2 (.inl (by omega))]
  go_enter Tryz.func148,Tryz.ntmps148
  go_wp2
  go_ret
  exact⟨rfl,rfl⟩
theorem stOk {D:List (Int × Int)}{k:Nat}{x y lx ly:Int}(h:D.getD k (0,0)=(x,y))(hl:k≠0→D.getD (k - 1) (0,0)=(lx,ly)) :
  Re.okAt D k=true↔¬(x<0∨100000<x∨(k≠0∧x≤lx))∧((y = -1∧k+1=D.length)∨¬(y<0∨10<y∨(k≠0∧y<ly))):=by
 rw[Re.okAt_iff];unfold Re.ab Re.ti;rw[h]
 by_cases hk:k=0
 ·simp only;omega
 ·rw[hl hk]
  simp only;omega
theorem jW {D:List (Int × Int)}{k:Nat}(hk:k<D.length)(h:¬Re.okAt D k=true):Re.chk D=66:=Re.chk_not fun hR=>h (hR.ok k hk)
end Go.Proofs.YtefcalgjnkigjaaGreat
