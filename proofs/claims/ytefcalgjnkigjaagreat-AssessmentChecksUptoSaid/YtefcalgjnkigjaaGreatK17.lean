/- Packed. -/
import Derived.Test.YtefcalgjnkigjaaGreatK16
set_option maxRecDepth 100000
set_option maxHeartbeats 8000000
open Go.Value renaming int → I
open Go.IntKind renaming i64 → O
namespace Go.Proofs.YtefcalgjnkigjaaGreat
open Go.RowKit Sc As
def RsG (t:Nat) (r:RY) (f:RF) (va vr:Value) (L:List Rsn) (w:World) (e:Ending) (w' : World):Prop :=
 e = .returned (.tuple #[])∧∃vr', AcAt w' t r f va vr' ∧ OwnR SRn w' 129 (t+1) vr' L∧Chg t vr vr' w w'
theorem Chg.of_app {t B H:Nat}{v v' : Value}{w w' : World}(h:Appends w w' B H v v')(hH:v'.ownBlock=v.ownBlock∨w.heap.size≤H):Chg t v v' w w' :=
 ⟨h.below.os,h.below.tape,h.below.output,h.size,fun i hi _ hv=>h.far i hi hv,by
  rcases h.block with e|e
  ·exact .inl e
  ·rcases hH with k|k
   ·exact .inl k
   ·exact .inr fun g hg=>by rw[e]at hg;cases hg;exact k⟩
theorem Chg.setT {t i:Nat}{v v' : Value}{a b:World}(h:Chg t v v' a b)(u:Value):Chg t v v' a (b.setCell ⟨t,i,none⟩ u) :=
 h.trans ⟨rfl,rfl,rfl,by simp[World.setCell],fun k _ hk _=>by simp[World.setCell,Array.getElem?_modify,Ne.symm hk],.inl rfl⟩
theorem Chg.setO {t i g:Nat}{v v' : Value}{a b:World}(h:Chg t v v' a b)(hg:v'.ownBlock=some g)(u:Value):Chg t v v' a (b.setCell ⟨g,i,none⟩ u) :=
 h.trans ⟨rfl,rfl,rfl,by simp[World.setCell],fun k _ _ hk=>by
  have:g≠k:=fun e=>hk (by rw[hg,e])
  simp[World.setCell,Array.getElem?_modify,this],.inl rfl⟩
theorem AcAt.setO {w:World}{t g i:Nat}{r:RY}{f:RF}{va vr:Value}(h:AcAt w t r f va vr)(hg:g≠t)(u:Value):AcAt (w.setCell ⟨g,i,none⟩ u) t r f va vr :=
 h.same (by simp[World.setCell,Array.getElem?_modify,hg])
theorem shift_row (A D:List Rsn)(z:Rsn):∃h,(A++D ++ [z]).take (A.length+1)++((A++D ++ [z]).drop A.length).take D.length=A++h::D:=by
 cases D with
 | nil=>exact⟨z,by simp[List.take_of_length_le]⟩
 | cons d D=>exact⟨d,by simp[List.take_append,List.take_of_length_le]⟩
theorem OwnR.set3 {w:World}{B g n c:Nat}{A D:List Rsn}{y:Rsn}(h:OwnR SRn w 129 B (.slice (some ⟨g,0,none⟩) n c) (A++y::D))(x:Rsn) :
  OwnR SRn (((w.setCell ⟨g,A.length*3,none⟩ (I O x.line)).setCell ⟨g,A.length*3+1,none⟩ (I O x.scheme)).setCell ⟨g,A.length*3+2,none⟩ (I O x.kind)) 129 B (.slice (some ⟨g,0,none⟩) n c) (A++x::D):=by
 have step:∀(w:World) (y z:Rsn) (i:Nat) (u:Value),i<3→rCells z=(rCells y).set i u→OwnR SRn w 129 B (.slice (some ⟨g,0,none⟩) n c) (A++y::D)→OwnR SRn (w.setCell ⟨g,A.length*3+i,none⟩ u) 129 B (.slice (some ⟨g,0,none⟩) n c) (A++z::D):=by
  intro w y z i u hi hz h;obtain⟨g', e,_,_,_,_,_,hs⟩:=h.at (k:=A.length) (by simp)
  cases e
  have key:=hs i u z hi (by
   have:(A++y::D)[A.length]'(by simp)=y:=by simp
   rw[this];exact hz)
  rw[show(A++y::D).set A.length z=A++z::D from by simp]at key;exact key
 have h1:=step w y ⟨x.line,y.scheme,y.kind⟩ 0 (I O x.line) (by decide) rfl h;have h2:=step _ ⟨x.line,y.scheme,y.kind⟩ ⟨x.line,x.scheme,y.kind⟩ 1 (I O x.scheme) (by decide) rfl h1;have h3:=step _ ⟨x.line,x.scheme,y.kind⟩ x 2 (I O x.kind) (by decide) rfl h2;exact h3
theorem reason34_any (t:Nat)(r:RY)(f:RF)(va vr:Value)(A D:List Rsn)(x:Rsn)(w:World)(hA:AcAt w t r f va vr)(hR:OwnR SRn w 129 (t+1) vr (A++D))(hlen:A.length+D.length<1000)(h1:∀y∈A,y.line≤x.line)(h2:∀y∈D,x.line<y.line) :
  Calls Tryz.prog 142 #[.pointer (some ⟨t,0,none⟩),.agg (rCells x).toArray] w (RsG t r f va vr (A++x::D) w):=by
 have htl:=hA.lt;have hov:∀k,vr.ownBlock=some k→t+1≤k∧k<w.heap.size:=fun k hk=>hR.lt hk
 obtain⟨n1,hn1⟩:∃n,A.length=n:=⟨_,rfl⟩;obtain⟨N,hN⟩:∃N,A.length+D.length=N:=⟨_,rfl⟩;have hln:(A++D).length=N:=by rw[lap];exact hN
 obtain⟨p,c,rfl,hp0,hpx,hnc,hcm, -⟩:=hR.cut hln;have HA:=mh ((brf w.heap.size w).alloc mle (.cells #[I O x.line,I O x.scheme,I O x.kind] 129));obtain⟨w1,ew1⟩:∃W,w.alloc (.cells #[I O x.line,I O x.scheme,I O x.kind] 129)=W:=⟨_,rfl⟩;have hb1:Below w.heap.size w w1:=ew1▸HA.out;have hs1:w1.heap.size=w.heap.size+1:=by rw[← ew1];simp
 have hx1:w1.heap[w.heap.size]?=some (.cells #[I O x.line,I O x.scheme,I O x.kind] 129):=by rw[← ew1];exact Array.getElem?_push_size
 have HX1:=mh hx1;have HB1:=mh hb1;have HS1:=mh hs1;have HO:=mh hov;have HA1:=mh (hA.below hb1 htl);have HR1:=mh (hR.below hb1);have HPX:=mh hpx;have EW:=mh ew1;have hN1:N<1000:=by omega
 have hn1N:n1≤N:=by omega
 clear hb1 hs1 hx1 hA hR hov hpx hp0 HA hcm ew1;simp only[rCells];have k14:(w.alloc (.cells #[I O x.line,I O x.scheme,I O x.kind] 129)).cell? ⟨t,14,none⟩=some (.slice p N c):=by rw[EW.out];exact HA1.out.cell 14 _ rfl
 go_enter Tryz.func142,Tryz.ntmps142
 go_wp2
 rw[EW.out];clear k14 EW
 go_loopw [4] (fun i wr=>∃j:Nat,n1≤j∧j≤N∧i=I O j∧Below w1.heap.size w1 wr) (fun i _=>(intOf i).toNat)
 case atStart=>exact⟨N,hn1N,Nat.le_refl _,rfl,brf _ _⟩
 case round =>
  obtain⟨j,hj1,hjN,rfl,hb⟩:=hrel;have hj0:(0:Int)≤(j:Int):=inn _;have a14:=(HA1.out.below hb (by rw[HS1.out];omega)).cell 14 _ rfl;have b0:wr.cell? ⟨w.heap.size,0,none⟩=some (I O x.line):=(hb.cell (p:=⟨w.heap.size,0,none⟩) (by rw[HS1.out];exact Nat.lt_succ_self _)).trans (by simp[World.cell?,HX1.out])
  rcases Nat.eq_zero_or_pos j with hz|hpos
  ·have fz:decide (0<j)=false:=dqf (by omega)
   have hjn:(j:Int)=(n1:Int):=by omega
   rw[hjn];have fz2:decide (0<n1)=false:=dqf (by omega);clear hz fz hj1 hjN
   go_wp2_with fail
   refine wp_region_quiet_lit (by kernel_rfl) (by kernel_rfl) ?_
   try simp only[List.append_eq,List.cons_append,List.nil_append]
   repeat (go_big_quiet_step (fail))
   refine wpQuiet_nil ?_
   intro _ hwq;obtain⟨nq,hwr⟩:=hwq;subst hwr;obtain⟨wq,ewq⟩:∃W,wr.drewN nq=W:=⟨_,rfl⟩;rw[ewq];have HBQ:=mh (show Below w1.heap.size w1 wq from ewq▸bnext hb hb.size (drewN_below _ _));clear ewq hb a14 b0;have HAQ:=mh (HA1.out.below HBQ.out (by rw[HS1.out];omega));have HRQ:=mh (HR1.out.below HBQ.out);have HTQ:=mh (show t+1≤wq.heap.size from Nat.le_trans (show t+1≤w1.heap.size by rw[HS1.out];omega) HBQ.out.size);have q14:=HAQ.out.cell 14 _ rfl
   go_wp2_with (first|(at_builtin;(refine OwnR.append el_rsn rfl (.tmp 32) (.tmp 34) rfl (t+1) _ (A++D) ⟨0,0,0⟩ #[I O 0,I O 0,I O 0] rfl HRQ.out rfl rfl HTQ.out (by rw[hln];omega) (by decide) ?_);intro v5 w5 hO5 hap5;obtain⟨p5,c5,rfl, -, -,hnc5, -, -⟩:=hO5.cut (n:=N+1) (by rw[lap,hln];rfl);obtain⟨g5,e5, -,hBg,hlg, -, -, -⟩:=hO5.at (k:=0) (by rw[lap];exact Nat.succ_pos _);cases e5;have A5:=HAQ.out.below hap5.below (Nat.lt_succ_self t);have r14:=A5.cell 14 _ rfl;have f14:=A5.frozen 14;have HA5:=mh A5;have HO5:=mh hO5;have HP5:=mh hap5;have HG5:=mh (And.intro hBg hlg);clear A5 hO5 hap5 hBg hlg)|fail)
   obtain⟨w6,ew6⟩:∃W,w5.setCell ⟨t,14,none⟩ (.slice (some ⟨g5,0,none⟩) (N+1) c5)=W:=⟨_,rfl⟩;rw[ew6];have HA6:=mh (show AcAt w6 t r f va _ from ew6▸HA5.out.setR (.slice (some ⟨g5,0,none⟩) (N+1) c5));have HO6:=mh (show OwnR SRn w6 129 (t+1) (.slice (some ⟨g5,0,none⟩) (N+1) c5) (A++D ++ [⟨0,0,0⟩]) from ew6▸OwnR.setOther HO5.out (by show some g5≠some t;intro e;cases e;have:=HG5.out.1;omega) _);have HC6:=mh (show Chg t (.slice p N c) (.slice (some ⟨g5,0,none⟩) (N+1) c5) w w6 from ew6▸(((Chg.of_below (HB1.out.trans (HBQ.out.mono (by rw[HS1.out];omega)))).trans (Chg.of_app HP5.out (.inr (by omega)))).setT _))
   have HX6:=mh (show w6.heap[w.heap.size]?=some (.cells #[I O x.line,I O x.scheme,I O x.kind] 129) from by
    rw[← ew6];have e1:w5.heap[w.heap.size]?=some (.cells #[I O x.line,I O x.scheme,I O x.kind] 129):=by
     rw[HP5.out.far _ (nll (show w.heap.size<w1.heap.size by rw[HS1.out];omega) HBQ.out.size) (fun e=>by have:=(HO.out _ e).2;omega),HBQ.out.block _ (by rw[HS1.out];omega)];exact HX1.out
    rw[← e1];have:t≠w.heap.size:=by omega
    simp[World.setCell,Array.getElem?_modify,this])
   have HL6:=mh (show g5<w6.heap.size from by rw[← ew6];simp[World.setCell];exact HG5.out.2);clear ew6 r14 f14 q14;have s14:=HA6.out.cell 14 _ rfl;obtain⟨q1,d1,Q1,R1⟩:=run_rsn_from g5 (N+1) c5 (n1+1) (by omega) hnc5;obtain⟨q2,d2,Q2,R2⟩:=run_rsn_from g5 (N+1) c5 n1 (by omega) hnc5;have hm1:N+1 - (n1+1)=D.length:=by omega
   have hm2:N+1 - n1=D.length+1:=by omega
   rw[hm1]at Q1 R1;rw[hm2]at R2 Q2;have hcn:((n1+1:Nat):Int)=(n1:Int)+1:=by push_cast;rfl
   rw[hcn]at R1;have HQ1:=mh Q1;have HQ2:=mh (fun (h:0<D.length)=>Q2 (by omega));clear Q1 Q2 hm1 hm2 hcn;have hw1:IntKind.i64.wrap ((n1:Int)+1)=(n1:Int)+1:=by rw[IntKind.wrap_i64];omega
   go_region_law ((refine OwnR.stepShift el_rsn (by rfl) (.tmp 44) (.tmp 50) (by rfl) (t+1) (.slice (some ⟨g5,0,none⟩) (N+1) c5) (A++D ++ [⟨0,0,0⟩]) n1 D.length HO6.out.drew (by rw[lap,hln];simp;omega) g5 rfl q1 q2 d1 d2 (by rfl) (by rfl) HQ1.out HQ2.out ?_;intro w7 hO7 hap7;have HO7:=mh hO7;have HP7:=mh hap7;have t14:=(HA6.out.same (w' := w7) (hap7.below.block t (Nat.lt_succ_self t))).cell 14 _ rfl;clear hO7 hap7))
   all_goals
    obtain⟨h0,eh⟩:=shift_row A D ⟨0,0,0⟩
    have HO8:=mh (show OwnR SRn w7 129 (t+1) (.slice (some ⟨g5,0,none⟩) (N+1) c5) (A++h0::D) from by
     have:=HO7.out;rw[← hn1,eh]at this
     exact this)
    have NG:=mh (show g5≠w.heap.size from by
     intro e
     rcases HP5.out.block with k|k
     ·have:=(HO.out g5 (by rw[← k];rfl)).2
      omega
     ·have k:some g5=some (wq.heap.size+1):=k
      cases k
      have:=HBQ.out.size;have:=HS1.out
      omega)
    have hx7:w7.heap[w.heap.size]?=some (.cells #[I O x.line,I O x.scheme,I O x.kind] 129):=by
     rw[HP7.out.far _ (by have:=HX6.out;exact(Array.getElem?_eq_some_iff.1 this).1) (fun e=>NG.out (by cases e;rfl))];exact HX6.out
    have y0:w7.cell? ⟨w.heap.size,0,none⟩=some (I O x.line):=by simp[World.cell?,hx7]
    have y1:w7.cell? ⟨w.heap.size,1,none⟩=some (I O x.scheme):=by simp[World.cell?,hx7]
    have y2:w7.cell? ⟨w.heap.size,2,none⟩=some (I O x.kind):=by simp[World.cell?,hx7]
    obtain⟨g', e', -, -,hlg7,hc7,hf7, -⟩:=HO8.out.at (k:=n1) (by rw[lap,List.length_cons];omega)
    cases e'
    have eat:(A++h0::D)[n1]'(by rw[lap,List.length_cons];omega)=h0:=by subst hn1;simp
    rw[eat]at hc7;have z0:w7.cell? ⟨g5,n1*3,none⟩=some (I O h0.line):=hc7 0 _ rfl;have z1:w7.cell? ⟨g5,n1*3+1,none⟩=some (I O h0.scheme):=hc7 1 _ rfl;have z2:w7.cell? ⟨g5,n1*3+2,none⟩=some (I O h0.kind):=hc7 2 _ rfl;have v0:=hf7 (n1*3);have v1:=hf7 (n1*3+1);have v2:=hf7 (n1*3+2);have hn10:(0:Int)≤(n1:Int):=inn _;have hn11:(n1:Int)<(N:Int)+1:=by omega
    clear eat hc7 hf7 hx7 eh R1 R2 hw1 s14
    go_wp2
    go_region
    go_wp2
    refine bodyPost_end (v := .tuple #[]) (by simp[results,Tryz.results142,go_sem]) rfl ⟨rfl,.slice (some ⟨g5,0,none⟩) (N+1) c5,?_,?_,?_⟩
    ·have e:g5≠t:=by have:=HG5.out.1;omega
     exact(((((HA6.out.same (w' := w6.drew) rfl).below HP7.out.below (Nat.lt_succ_self t)).setO e _).setO e _).setO e _).same rfl
    ·have:=HO8.out.set3 x
     rw[hn1]at this;exact this.drew
    ·exact(((((HC6.out.stp (brf _ _).drew).trans (Chg.of_app HP7.out (.inl rfl))).setO rfl _).setO rfl _).setO rfl _).stp (brf _ _).drew
  ·obtain⟨m,hm⟩:∃m,j=m+1:=⟨j - 1,by omega⟩
   have hm0:(0:Int)≤(m:Int):=inn _;have hmN:(m:Int)<(N:Int):=by omega
   have hkm:IntKind.i64.wrap ((j:Int) - 1)=(m:Int):=by rw[IntKind.wrap_i64];omega
   have hml:m<(A++D).length:=by rw[hln];omega
   obtain⟨g,e, -, -, -,hc, -, -⟩:=(HR1.out.below hb).at hml
   cases e
   obtain⟨y,ey⟩:∃y,(A++D)[m]=y:=⟨_,rfl⟩;rw[ey]at hc;have c0:wr.cell? ⟨g,m*3,none⟩=some (I O y.line):=hc 0 _ rfl;have fz:decide (0<j)=true:=dqt hpos;have HPB:=mh (bnext hb hb.size (drewN_below wr 1));have HB:=mh hb
   by_cases hjn:n1<j
   ·have hy:decide (x.line<y.line)=true:=dqt (h2 y (by
     rw[← ey,List.getElem_append_right (by omega)]
     exact List.getElem_mem _))
    have HM:=mh hm;have HJ:=mh hjn;have HN2:=mh hjN;clear hc ey hpos hjn hj1 hm hb hjN h1 h2
    go_wp2_with fail
    refine wp_region_quiet_lit (by kernel_rfl) (by kernel_rfl) ?_
    try simp only[List.append_eq,List.cons_append,List.nil_append]
    repeat (go_big_quiet_step (fail))
    refine wpQuiet_nil ?_
    intro _ hwq;obtain⟨nq,hwr⟩:=hwq;subst hwr
    go_wp2
    go_roundw
    case rel=>exact⟨m,by have:=HM.out;have:=HJ.out;omega,by have:=HM.out;have:=HN2.out;omega,rfl,bnext HB.out HB.out.size (drewN_below _ _)⟩
    case measure=>have:=HM.out;simp[intOf];omega
   ·have hjn' : j=n1:=by omega
    have hy:decide (x.line<y.line)=false:=dqf (by
     have:=h1 y (by
      rw[← ey,List.getElem_append_left (by omega)]
      exact List.getElem_mem _)
     omega)
    subst hjn'; clear hc ey hpos hjn hj1 hm hjN HPB HB
    go_wp2_with fail
    refine wp_region_quiet_lit (by kernel_rfl) (by kernel_rfl) ?_
    try simp only[List.append_eq,List.cons_append,List.nil_append]
    repeat (go_big_quiet_step (fail))
    refine wpQuiet_nil ?_
    intro _ hwq;obtain⟨nq,hwr⟩:=hwq;subst hwr;obtain⟨wq,ewq⟩:∃W,wr.drewN nq=W:=⟨_,rfl⟩;rw[ewq];have HBQ:=mh (show Below w1.heap.size w1 wq from ewq▸bnext hb hb.size (drewN_below _ _));clear ewq hb a14 b0;have HAQ:=mh (HA1.out.below HBQ.out (by rw[HS1.out];omega));have HRQ:=mh (HR1.out.below HBQ.out);have HTQ:=mh (show t+1≤wq.heap.size from Nat.le_trans (show t+1≤w1.heap.size by rw[HS1.out];omega) HBQ.out.size);have q14:=HAQ.out.cell 14 _ rfl
    go_wp2_with (first|(at_builtin;(refine OwnR.append el_rsn rfl (.tmp 32) (.tmp 34) rfl (t+1) _ (A++D) ⟨0,0,0⟩ #[I O 0,I O 0,I O 0] rfl HRQ.out rfl rfl HTQ.out (by rw[hln];omega) (by decide) ?_);intro v5 w5 hO5 hap5;obtain⟨p5,c5,rfl, -, -,hnc5, -, -⟩:=hO5.cut (n:=N+1) (by rw[lap,hln];rfl);obtain⟨g5,e5, -,hBg,hlg, -, -, -⟩:=hO5.at (k:=0) (by rw[lap];exact Nat.succ_pos _);cases e5;have A5:=HAQ.out.below hap5.below (Nat.lt_succ_self t);have r14:=A5.cell 14 _ rfl;have f14:=A5.frozen 14;have HA5:=mh A5;have HO5:=mh hO5;have HP5:=mh hap5;have HG5:=mh (And.intro hBg hlg);clear A5 hO5 hap5 hBg hlg)|fail)
    obtain⟨w6,ew6⟩:∃W,w5.setCell ⟨t,14,none⟩ (.slice (some ⟨g5,0,none⟩) (N+1) c5)=W:=⟨_,rfl⟩;rw[ew6];have HA6:=mh (show AcAt w6 t r f va _ from ew6▸HA5.out.setR (.slice (some ⟨g5,0,none⟩) (N+1) c5));have HO6:=mh (show OwnR SRn w6 129 (t+1) (.slice (some ⟨g5,0,none⟩) (N+1) c5) (A++D ++ [⟨0,0,0⟩]) from ew6▸OwnR.setOther HO5.out (by show some g5≠some t;intro e;cases e;have:=HG5.out.1;omega) _);have HC6:=mh (show Chg t (.slice (some ⟨g,0,none⟩) N c) (.slice (some ⟨g5,0,none⟩) (N+1) c5) w w6 from ew6▸(((Chg.of_below (HB1.out.trans (HBQ.out.mono (by rw[HS1.out];omega)))).trans (Chg.of_app HP5.out (.inr (by omega)))).setT _))
    have HX6:=mh (show w6.heap[w.heap.size]?=some (.cells #[I O x.line,I O x.scheme,I O x.kind] 129) from by
     rw[← ew6];have e1:w5.heap[w.heap.size]?=some (.cells #[I O x.line,I O x.scheme,I O x.kind] 129):=by
      rw[HP5.out.far _ (nll (show w.heap.size<w1.heap.size by rw[HS1.out];omega) HBQ.out.size) (fun e=>by have:=(HO.out _ e).2;omega),HBQ.out.block _ (by rw[HS1.out];omega)];exact HX1.out
     rw[← e1];have:t≠w.heap.size:=by omega
     simp[World.setCell,Array.getElem?_modify,this])
    have HL6:=mh (show g5<w6.heap.size from by rw[← ew6];simp[World.setCell];exact HG5.out.2);clear ew6 r14 f14 q14;have s14:=HA6.out.cell 14 _ rfl;obtain⟨q1,d1,Q1,R1⟩:=run_rsn_from g5 (N+1) c5 (j+1) (by omega) hnc5;obtain⟨q2,d2,Q2,R2⟩:=run_rsn_from g5 (N+1) c5 j (by omega) hnc5;have hm1:N+1 - (j+1)=D.length:=by omega
    have hm2:N+1 - j=D.length+1:=by omega
    rw[hm1]at Q1 R1;rw[hm2]at R2 Q2;have hcn:((j+1:Nat):Int)=(j:Int)+1:=by push_cast;rfl
    rw[hcn]at R1;have HQ1:=mh Q1;have HQ2:=mh (fun (h:0<D.length)=>Q2 (by omega));clear Q1 Q2 hm1 hm2 hcn;have hw1:IntKind.i64.wrap ((j:Int)+1)=(j:Int)+1:=by rw[IntKind.wrap_i64];omega
    go_region_law ((refine OwnR.stepShift el_rsn (by rfl) (.tmp 44) (.tmp 50) (by rfl) (t+1) (.slice (some ⟨g5,0,none⟩) (N+1) c5) (A++D ++ [⟨0,0,0⟩]) j D.length HO6.out.drew (by rw[lap,hln];simp;omega) g5 rfl q1 q2 d1 d2 (by rfl) (by rfl) HQ1.out HQ2.out ?_;intro w7 hO7 hap7;have HO7:=mh hO7;have HP7:=mh hap7;have t14:=(HA6.out.same (w' := w7) (hap7.below.block t (Nat.lt_succ_self t))).cell 14 _ rfl;clear hO7 hap7))
    all_goals
     obtain⟨h0,eh⟩:=shift_row A D ⟨0,0,0⟩
     have HO8:=mh (show OwnR SRn w7 129 (t+1) (.slice (some ⟨g5,0,none⟩) (N+1) c5) (A++h0::D) from by
      have:=HO7.out;rw[← hn1,eh]at this
      exact this)
     have NG:=mh (show g5≠w.heap.size from by
      intro e
      rcases HP5.out.block with k|k
      ·have:=(HO.out g5 (by rw[← k];rfl)).2
       omega
      ·have k:some g5=some (wq.heap.size+1):=k
       cases k
       have:=HBQ.out.size;have:=HS1.out
       omega)
     have hx7:w7.heap[w.heap.size]?=some (.cells #[I O x.line,I O x.scheme,I O x.kind] 129):=by
      rw[HP7.out.far _ (by have:=HX6.out;exact(Array.getElem?_eq_some_iff.1 this).1) (fun e=>NG.out (by cases e;rfl))];exact HX6.out
     have y0:w7.cell? ⟨w.heap.size,0,none⟩=some (I O x.line):=by simp[World.cell?,hx7]
     have y1:w7.cell? ⟨w.heap.size,1,none⟩=some (I O x.scheme):=by simp[World.cell?,hx7]
     have y2:w7.cell? ⟨w.heap.size,2,none⟩=some (I O x.kind):=by simp[World.cell?,hx7]
     obtain⟨g', e', -, -,hlg7,hc7,hf7, -⟩:=HO8.out.at (k:=j) (by rw[lap,List.length_cons];omega)
     cases e'
     have eat:(A++h0::D)[j]'(by rw[lap,List.length_cons];omega)=h0:=by subst hn1;simp
     rw[eat]at hc7;have z0:w7.cell? ⟨g5,j*3,none⟩=some (I O h0.line):=hc7 0 _ rfl;have z1:w7.cell? ⟨g5,j*3+1,none⟩=some (I O h0.scheme):=hc7 1 _ rfl;have z2:w7.cell? ⟨g5,j*3+2,none⟩=some (I O h0.kind):=hc7 2 _ rfl;have v0:=hf7 (j*3);have v1:=hf7 (j*3+1);have v2:=hf7 (j*3+2);have hn10:(0:Int)≤(j:Int):=inn _;have hn11:(j:Int)<(N:Int)+1:=by omega
     clear eat hc7 hf7 hx7 eh R1 R2 hw1 s14
     go_wp2
     go_region
     go_wp2
     refine bodyPost_end (v := .tuple #[]) (by simp[results,Tryz.results142,go_sem]) rfl ⟨rfl,.slice (some ⟨g5,0,none⟩) (N+1) c5,?_,?_,?_⟩
     ·have e:g5≠t:=by have:=HG5.out.1;omega
      exact(((((HA6.out.same (w' := w6.drew) rfl).below HP7.out.below (Nat.lt_succ_self t)).setO e _).setO e _).setO e _).same rfl
     ·have:=HO8.out.set3 x
      rw[hn1]at this;exact this.drew
     ·exact(((((HC6.out.stp (brf _ _).drew).trans (Chg.of_app HP7.out (.inl rfl))).setO rfl _).setO rfl _).setO rfl _).stp (brf _ _).drew
end Go.Proofs.YtefcalgjnkigjaaGreat
namespace Go.Proofs.YtefcalgjnkigjaaGreat.As
open Sc Go.RowKit
/-! ### amounts by brackets are never negative -/
theorem amt_nonneg {s:Sch}(h:one17 s=0)(p:Int):0≤amtV s p:=by
 unfold amtV
 split
 ·omega
 ·have hb:=(one_parts h).2.2.2.2.2.1
  have:∀k,k≤s.br.length→0≤amt s.br p k:=by
   intro k
   induction k with
   | zero=>intro _;simp[amt]
   | succ k ih =>
     intro hk;have:=ih (by omega);unfold amt;rw[List.getElem?_eq_getElem (by omega)];simp only;have r:=(br_right (show k<s.br.length by omega) (brAll_mono (show k+1≤s.br.length by omega) (brB_all hb))).2.2.1;have:=Int.mul_nonneg (show(0:Int)≤max 0 (min p s.br[k].up - upB s.br k) by omega) r;omega
  have:=this _ mle;omega
theorem award_fine {l:YLaw}{f:FarmF}(hl:YOk l)(hf:FarmOk l f){k:Nat}{s:Sch}(hk:l.sch[k]?=some s):AwOk (award l f k s) :=
 award_ok hl hf hk fun p _ _=>amt_nonneg (hl.one hk) p
theorem awards_ok {l:YLaw}{f:FarmF}(hl:YOk l)(hf:FarmOk l f){a:Awd}(ha:a∈awards0 l f):AwOk a∧a.farm=f.farm∧a.capped=0∧a.due=0:=by
 obtain⟨k,s,_,hk,_,rfl⟩:=mem_awardsN.1 ha;exact⟨award_fine hl hf hk,rfl,rfl,rfl⟩
/-! ### reasons -/
theorem mem_rsnAt {l:YLaw}{x:LineF}{i n:Nat}{r:Rsn}:r∈rsnAt l x i n↔∃k s,k<n∧l.sch[k]?=some s∧namesB x s=true∧(det (factOf x k) l.width).2≠0∧r=⟨i,s.num,(det (factOf x k) l.width).2⟩:=by
 induction n with
 | zero=>simp[rsnAt]
 | succ n ih =>
   unfold rsnAt rsStep;rw[List.mem_append,ih]
   constructor
   ·rintro (⟨k,s,h1,h⟩|h)
    ·exact⟨k,s,by omega,h⟩
    ·cases e:l.sch[n]? with
     | none=>rw[e]at h;simp at h
     | some s =>
       rw[e]at h;simp only at h
       split at h
       ·rename_i hs
        exact⟨n,s,by omega,e,hs.1,hs.2,List.mem_singleton.1 h⟩
       ·simp at h
   ·rintro ⟨k,s,h1,h2,h3,h4,h5⟩
    by_cases hk:k<n
    ·exact .inl ⟨k,s,hk,h2,h3,h4,h5⟩
    ·obtain rfl:k=n:=by omega
     right
     rw[h2];simp only;rw[if_pos ⟨h3,h4⟩];exact List.mem_singleton.2 h5
/-! ### the error of a farm -/
theorem YOk.len {l:YLaw}(h:YOk l):l.sch.length≤16:=(lawOk h.sch).len
theorem allErr_append {l:YLaw}:∀(G H:List FarmF),allErr l (G++H)=if allErr l G≠0 then allErr l G else allErr l H
 | [],H=>by simp[allErr]
 | g::G,H=>by
   show(if farmErr l g≠0 then farmErr l g else allErr l (G++H))=if (if farmErr l g≠0 then farmErr l g else allErr l G)≠0 then (if farmErr l g≠0 then farmErr l g else allErr l G) else allErr l H
   by_cases h:farmErr l g≠0
   ·rw[if_pos h,if_pos h,if_pos h]
   ·rw[if_neg h,if_neg h,allErr_append G H]
/-! ### what is capped -/
theorem farm_fine {l:YLaw}{f:FarmF}(he:farmErr l f=0):Ce.Fine l.deg l.cap (timelies (awards0 l f)):=by
 unfold farmErr at he
 split at he
 ·rename_i h;exact absurd he h
 ·exact Ce.fine_of he
theorem setCapped_len (A:List Awd)(c:List Int):(setCapped A c).length=A.length:=by unfold setCapped;simp
theorem setCapped_at (A:List Awd)(c:List Int)(i:Nat)(h:i<(setCapped A c).length)(h' : i<A.length):(setCapped A c)[i]={ A[i] with capped:=c.getD i 0 }:=by
 simp[setCapped]
theorem setDue_len (A:List Awd)(c:List Int):(setDue A c).length=A.length:=by unfold setDue;simp
theorem setDue_at (A:List Awd)(c:List Int)(i:Nat)(h:i<(setDue A c).length)(h' : i<A.length):(setDue A c)[i]={ A[i] with due:=c.getD i 0 }:=by
 simp[setDue]
theorem tim_getD (A:List Awd)(i:Nat)(h:i<A.length):(timelies A).getD i 0=A[i].timely:=by
 unfold timelies;simp[h]
structure AwFine (l:YLaw) (f:FarmF) (a:Awd):Prop where
 ok:AwOk a
 farm:a.farm=f.farm
 c0:0≤a.capped
 ct:a.capped≤a.timely
 due:a.due=0
theorem farmAw_len {l:YLaw}{f:FarmF}(he:farmErr l f=0):(farmAw l f).length=(awards0 l f).length:=by
 unfold farmAw;rw[if_neg (by omega),setCapped_len]
theorem farmAw_at {l:YLaw}{f:FarmF}(he:farmErr l f=0)(i:Nat)(h:i<(farmAw l f).length)(h' : i<(awards0 l f).length) :
  (farmAw l f)[i]={ (awards0 l f)[i] with capped:=(Ce.farm l.deg l.cap (timelies (awards0 l f))).getD i 0 }:=by
 have e:farmAw l f=setCapped (awards0 l f) (Ce.farm l.deg l.cap (timelies (awards0 l f))):=by unfold farmAw;rw[if_neg (by omega)]
 have:∀(X:List Awd) (hX:i<X.length),X=setCapped (awards0 l f) (Ce.farm l.deg l.cap (timelies (awards0 l f)))→X[i]={ (awards0 l f)[i] with capped:=(Ce.farm l.deg l.cap (timelies (awards0 l f))).getD i 0 }:=by
  rintro X hX rfl;exact setCapped_at _ _ i hX h'
 exact this _ h e
theorem farmAw_fine {l:YLaw}{f:FarmF}(hl:YOk l)(hf:FarmOk l f){a:Awd}(ha:a∈farmAw l f):AwFine l f a:=by
 by_cases he:farmErr l f=0
 ·obtain⟨i,hi,rfl⟩:=List.mem_iff_getElem.1 ha
  have hi' : i<(awards0 l f).length:=by rw[← farmAw_len he];exact hi
  rw[farmAw_at he i hi hi'];obtain⟨h1,h2,h3,h4⟩:=awards_ok hl hf (List.getElem_mem hi');have hb:=(farm_fine he).farm_bd i (by unfold timelies;rw[List.length_map];exact hi');rw[tim_getD _ i hi']at hb;exact⟨⟨h1.n0,h1.nd,h1.d1,h1.p0,h1.pn,h1.r0,h1.r1,h1.t0,h1.tr⟩,h2,hb.1,hb.2,h4⟩
 ·unfold farmAw at ha
  rw[if_pos he]at ha
  cases ha
/-! ### all farms -/
theorem mem_allAw {l:YLaw}{F:List FarmF}{a:Awd}:a∈allAw l F↔∃f∈F,a∈farmAw l f:=by unfold allAw;exact List.mem_flatMap
theorem farmAw_le (l:YLaw)(f:FarmF):(farmAw l f).length≤l.sch.length:=by
 by_cases he:farmErr l f=0
 ·rw[farmAw_len he];exact awardsN_len l f _
 ·unfold farmAw;rw[if_pos he];simp
theorem allAw_le (l:YLaw):∀F:List FarmF,(allAw l F).length≤F.length*l.sch.length
 | []=>by simp[allAw]
 | f::F=>by
   have h1:=farmAw_le l f;have h2:=allAw_le l F
   show(farmAw l f++allAw l F).length≤_
   rw[lap,List.length_cons,Nat.add_mul];omega
theorem all_good {l:YLaw}{F:List FarmF}(h:FOk l F)(h64:(allAw l F).length≤64):En.Good l.env l.unit (cappeds (allAw l F)):=by
 refine⟨h.law.env.1,h.law.env.2,h.law.unit.1,h.law.unit.2,by unfold cappeds;rw[List.length_map];exact h64,fun x hx=>?_⟩
 obtain⟨a,ha,rfl⟩:=List.mem_map.1 hx;obtain⟨f,hf,ha⟩:=mem_allAw.1 ha;have k:=farmAw_fine h.law (h.farm f hf) ha;have:=k.c0;have:=k.ct;have:=k.ok.tr;have:=k.ok.r1;exact⟨by omega,by omega⟩
theorem total_snoc (A:List Awd)(a:Awd):total (A ++ [a])=total A+a.due:=by unfold total;rw[List.map_append,List.map_singleton,Sh.sum_snoc]
def gRow (l:YLaw) (f:FarmF) (k i:Nat):Nat→List Rsn
 | 0 => []
 | n+1=>gRow l f k i n++rsLine l f n (if n<i then k+1 else k)
def gAll (l:YLaw) (f:FarmF) (k i:Nat):List Rsn:=gRow l f k i f.lines.length
def gTail (l:YLaw) (f:FarmF) (k i:Nat):Nat→List Rsn
 | 0 => []
 | n+1=>gTail l f k i n++(if i≤n then rsLine l f n k else [])
theorem gRow_line {l:YLaw}{f:FarmF}{k i n:Nat}{y:Rsn}(h:y∈gRow l f k i n):y.line<n:=by
 induction n with
 | zero=>cases h
 | succ n ih =>
   rcases List.mem_append.1 h with h|h
   ·have:=ih h;omega
   ·unfold rsLine at h
    split at h
    ·obtain⟨_,_,_,_,_,_,rfl⟩:=mem_rsnAt.1 h
     show(n:Int)<_;omega
    ·cases h
theorem rsLine_line {l:YLaw}{f:FarmF}{k n:Nat}{y:Rsn}(h:y∈rsLine l f n k):y.line=n:=by
 unfold rsLine at h
 split at h
 ·obtain⟨_,_,_,_,_,_,rfl⟩:=mem_rsnAt.1 h;rfl
 ·cases h
theorem gTail_line {l:YLaw}{f:FarmF}{k i n:Nat}{y:Rsn}(h:y∈gTail l f k i n):(i:Int)≤y.line:=by
 induction n with
 | zero=>cases h
 | succ n ih =>
   rcases List.mem_append.1 h with h|h
   ·exact ih h
   ·split at h
    ·have:=rsLine_line h;omega
    ·cases h
theorem gRow_cut (l:YLaw)(f:FarmF)(k:Nat){i n:Nat}(h:i≤n):gRow l f k i n=gRow l f k i i++gTail l f k i n:=by
 induction n with
 | zero =>
   obtain rfl:i=0:=by omega
   rfl
 | succ n ih =>
   by_cases hi:i≤n
   ·show gRow l f k i n++_=_++(gTail l f k i n++_)
    rw[ih hi,if_neg (by omega),if_pos hi,List.append_assoc]
   ·obtain rfl:i=n+1:=by omega
    have e:∀m,m≤n+1→gTail l f k (n+1) m = []:=by
     intro m
     induction m with
     | zero=>intro _;rfl
     | succ m ih=>intro hm;show gTail l f k (n+1) m++_ = [];rw[ih (by omega),if_neg (by omega)];rfl
    rw[e _ mle,List.append_nil]
theorem gRow_ahead (l:YLaw)(f:FarmF)(k:Nat){i j:Nat}:∀{n:Nat},n≤i→n≤j→gRow l f k i n=gRow l f k j n
 | 0,_,_=>rfl
 | n+1,h1,h2=>by
   show gRow l f k i n++_=gRow l f k j n++_
   rw[gRow_ahead l f k (i:=i) (j:=j) (n:=n) (by omega) (by omega),if_pos (by omega),if_pos (by omega)]
theorem gTail_succ (l:YLaw)(f:FarmF)(k:Nat){i n:Nat}(h:i<n):gTail l f k i n=rsLine l f i k++gTail l f k (i+1) n:=by
 induction n with
 | zero=>omega
 | succ n ih =>
   by_cases hi:i<n
   ·show gTail l f k i n++_=_++(gTail l f k (i+1) n++_)
    rw[ih hi,if_pos (by omega),if_pos (by omega),List.append_assoc]
   ·obtain rfl:i=n:=by omega
    have e:∀(c m:Nat),m≤c→gTail l f k c m = []:=by
     intro c m
     induction m with
     | zero=>intro _;rfl
     | succ m ih=>intro hm;show gTail l f k c m++_ = [];rw[ih (by omega),if_neg (by omega)];rfl
    show gTail l f k i i++(if i≤i then rsLine l f i k else [])=_++(gTail l f k (i+1) i++(if i+1≤i then _ else []))
    rw[e i i mle,e (i+1) i (by omega),if_pos mle,if_neg (by omega)]
    simp
theorem rsLine_succ {l:YLaw}{f:FarmF}{k i:Nat}{x:LineF}{s:Sch}(hx:f.lines[i]?=some x)(hs:l.sch[k]?=some s) :
  rsLine l f i (k+1)=rsLine l f i k++(if namesB x s=true∧(det (factOf x k) l.width).2≠0 then [⟨i,s.num,(det (factOf x k) l.width).2⟩] else []):=by
 unfold rsLine;rw[hx]
 show rsnAt l x i k++rsStep l x i k=_
 unfold rsStep;rw[hs]
theorem gAll_same {l:YLaw}{f:FarmF}{k i:Nat}{x:LineF}{s:Sch}(hi:i<f.lines.length)(hx:f.lines[i]?=some x)(hs:l.sch[k]?=some s)(h:¬(namesB x s=true∧(det (factOf x k) l.width).2≠0)) :
  gAll l f k (i+1)=gAll l f k i:=by
 unfold gAll;rw[gRow_cut l f k (show i+1≤f.lines.length from hi),gRow_cut l f k (show i≤f.lines.length by omega),gTail_succ l f k hi]
 show(gRow l f k (i+1) i++rsLine l f i (if i<i+1 then k+1 else k))++_=_
 rw[if_pos (by omega),rsLine_succ hx hs,if_neg h,List.append_nil,gRow_ahead l f k (show i≤i+1 by omega) (Nat.le_refl i),List.append_assoc]
theorem gAll_more {l:YLaw}{f:FarmF}{k i:Nat}{x:LineF}{s:Sch}(hi:i<f.lines.length)(hx:f.lines[i]?=some x)(hs:l.sch[k]?=some s)(h:namesB x s=true∧(det (factOf x k) l.width).2≠0) :
  ∃A D:List Rsn,gAll l f k i=A++D∧gAll l f k (i+1)=A++⟨i,s.num,(det (factOf x k) l.width).2⟩::D∧(∀y∈A,y.line≤i)∧(∀y∈D,(i:Int)<y.line):=by
 refine⟨gRow l f k i i++rsLine l f i k,gTail l f k (i+1) f.lines.length,?_,?_,fun y hy=>?_,fun y hy=>?_⟩
 ·unfold gAll
  rw[gRow_cut l f k (show i≤f.lines.length by omega),gTail_succ l f k hi,List.append_assoc]
 ·unfold gAll
  rw[gRow_cut l f k (show i+1≤f.lines.length from hi)]
  show(gRow l f k (i+1) i++rsLine l f i (if i<i+1 then k+1 else k))++_=_
  rw[if_pos (by omega),rsLine_succ hx hs,if_pos h,gRow_ahead l f k (show i≤i+1 by omega) (Nat.le_refl i)]
  simp
 ·rcases List.mem_append.1 hy with h|h
  ·have:=gRow_line h;omega
  ·rw[rsLine_line h];exact Int.le_refl _
 ·have:=gTail_line hy;omega
theorem gAll_end (l:YLaw)(f:FarmF)(k:Nat):gAll l f k f.lines.length=gAll l f (k+1) 0:=by
 unfold gAll;have e:∀n,n≤f.lines.length→gRow l f k f.lines.length n=gRow l f (k+1) 0 n:=by
  intro n
  induction n with
  | zero=>intro _;rfl
  | succ n ih =>
    intro h
    show gRow l f k f.lines.length n++_=gRow l f (k+1) 0 n++_
    rw[ih (by omega),if_pos (by omega),if_neg (by omega)]
 exact e _ mle
theorem gAll_zero (l:YLaw)(f:FarmF):gAll l f 0 0 = []:=by
 unfold gAll;have e:∀n,gRow l f 0 0 n = []:=by
  intro n
  induction n with
  | zero=>rfl
  | succ n ih =>
    show gRow l f 0 0 n++rsLine l f n (if n<0 then 0+1 else 0) = []
    rw[ih,if_neg (by omega)];unfold rsLine rsnAt
    split<;>rfl
 exact e _
theorem gAll_done (l:YLaw)(f:FarmF):gAll l f l.sch.length 0=reasons0 l f:=by
 unfold gAll reasons0;have e:∀n,gRow l f l.sch.length 0 n=reasonsN l f n:=by
  intro n
  induction n with
  | zero=>rfl
  | succ n ih =>
    show gRow l f l.sch.length 0 n++rsLine l f n (if n<0 then _ else l.sch.length)=_
    rw[ih,if_neg (by omega)]
    rfl
 exact e _
theorem rsnAt_len (l:YLaw)(x:LineF)(i k:Nat):(rsnAt l x i k).length≤k:=by
 induction k with
 | zero=>simp[rsnAt]
 | succ k ih =>
   unfold rsnAt rsStep;rw[lap]
   split
   ·split
    ·simp;omega
    ·simp;omega
   ·simp;omega
theorem gAll_len {l:YLaw}{f:FarmF}{k i:Nat}(hk:k≤16)(hf:f.lines.length≤20):(gAll l f k i).length≤340:=by
 unfold gAll;have e:∀n,(gRow l f k i n).length≤n*17:=by
  intro n
  induction n with
  | zero=>simp[gRow]
  | succ n ih =>
    show(gRow l f k i n++rsLine l f n (if n<i then k+1 else k)).length≤_
    rw[lap];have:(rsLine l f n (if n<i then k+1 else k)).length≤17:=by
     unfold rsLine
     split
     ·exact Nat.le_trans (rsnAt_len _ _ _ _) (by split<;>omega)
     ·simp
    omega
 have:=e f.lines.length;omega
/-! ### sums, a line at a time -/
theorem sumD_take {s:Sch}{K:List LineF}{k:Nat}(hk:k<K.length):sumD s (K.take (k+1))=sumD s (K.take k)+if namesB K[k] s then K[k].decl else 0:=by
 unfold sumD;rw[tsg hk,List.map_append,List.map_singleton,Sh.sum_snoc]
theorem sumN_take {l:YLaw}{j:Nat}{s:Sch}{K:List LineF}{k:Nat}(hk:k<K.length):sumN l j s (K.take (k+1))=sumN l j s (K.take k)+if namesB K[k] s then (det (factOf K[k] j) l.width).1 else 0:=by
 unfold sumN;rw[tsg hk,List.map_append,List.map_singleton,Sh.sum_snoc]
theorem someN_take {s:Sch}{K:List LineF}{k:Nat}(hk:k<K.length):someN s (K.take (k+1))=(someN s (K.take k)||namesB K[k] s):=by
 unfold someN;rw[tsg hk,List.any_append]
 simp
theorem declSum_mono {K:List LineF}(h:∀x∈K,0≤x.decl)(k:Nat):declSum (K.take k)≤declSum K:=by
 have e:declSum K=declSum (K.take k)+declSum (K.drop k):=by
  unfold declSum;rw[← Sh.sum_append,← List.map_append,List.take_append_drop]
 have:0≤declSum (K.drop k):=Sh.sum_nonneg fun y hy=>by
  obtain⟨x,hx,rfl⟩:=List.mem_map.1 hy;exact h x (List.mem_of_mem_drop hx)
 omega
theorem sums_bd {l:YLaw}{f:FarmF}(hl:YOk l)(hf:FarmOk l f){j:Nat}{s:Sch}(hs:l.sch[j]?=some s)(k:Nat) :
  0≤sumN l j s (f.lines.take k)∧sumN l j s (f.lines.take k)≤sumD s (f.lines.take k)∧sumD s (f.lines.take k)≤268435456:=by
 have hx:∀x∈f.lines.take k,LineOk l x:=fun x h=>hf.line x (List.mem_of_mem_take h)
 have h1:=sumN_bd hl hx hs;have h2:=sumD_bd (s:=s) (K:=f.lines.take k) fun x h=>(hx x h).d0
 have h3:=declSum_mono (K:=f.lines) (fun x h=>(hf.line x h).d0) k;have h4:=hf.sum;omega
end Go.Proofs.YtefcalgjnkigjaaGreat.As
namespace Go.Proofs.YtefcalgjnkigjaaGreat
open Go.RowKit
theorem day30_any (n:Int)(w:World):Calls Tryz.prog 184 #[I O n] w fun e w' => e = .returned (.bool (As.dayB n))∧w=w' :=by
 by_cases h1:0≤n
 rotate_left
 ·rw[show As.dayB n=false from by unfold As.dayB;simp[h1]]
  go_enter Tryz.func184,Tryz.ntmps184
  go_wp2
  go_ret
  exact⟨rfl,rfl⟩
 by_cases h2:n≤36864
 rotate_left
 ·rw[show As.dayB n=false from by unfold As.dayB;simp[h2]]
  go_enter Tryz.func184,Tryz.ntmps184
  go_wp2
  go_ret
  exact⟨rfl,rfl⟩
 ·rw[show As.dayB n=true from by unfold As.dayB;simp[h1,h2]]
  go_enter Tryz.func184,Tryz.ntmps184
  go_wp2
  go_ret
  exact⟨rfl,rfl⟩
theorem check30_any (d l m:Int)(w:World):Calls Tryz.prog 49 #[.agg #[I O d,I O l,I O m]] w fun e w' => e = .returned (I O (As.chkL ⟨d,l,m⟩))∧Below w.heap.size w w' :=by
 have HA:=mh (balloc mle (brf w.heap.size w) (.cells #[I O d,I O l,I O m] 26));obtain⟨v,ev⟩:∃v,As.chkL ⟨d,l,m⟩=v:=⟨_,rfl⟩;have hv:(d<0∧v=66)∨(¬d<0∧l<d∧v=66)∨(¬d<0∧¬l<d∧36864<l∧v=66)∨(¬d<0∧¬l<d∧¬36864<l∧m<0∧v=66)∨(¬d<0∧¬l<d∧¬36864<l∧¬m<0∧1000<m∧v=66)∨(¬d<0∧¬l<d∧¬36864<l∧¬m<0∧¬1000<m∧v=0):=by
  rw[← ev];unfold As.chkL;simp only
  split<;>omega
 rw[ev];clear ev
 rcases hv with⟨h1,rfl⟩|⟨h1,h2,rfl⟩|⟨h1,h2,h3,rfl⟩|⟨h1,h2,h3,h4,rfl⟩|⟨h1,h2,h3,h4,h5,rfl⟩|⟨h1,h2,h3,h4,h5,rfl⟩
 all_goals
  go_enter Tryz.func49,Tryz.ntmps49
  go_wp2
  go_ret
  exact⟨rfl,HA.out⟩
theorem ret_i {a b:Int}(h:a=b):Ending.returned (I O a) = .returned (I O b):=by rw[h]
theorem before30_any (d:Int)(w:World)(d0:0≤d)(d1:d≤36865):Calls Tryz.prog 213 #[I O d] w fun e w' => e = .returned (I O (As.bef d))∧w=w' :=by
 have EV:=mh (show As.bef d=d / 7*5+min (d % 7) 5 from rfl)
 go_enter Tryz.func213,Tryz.ntmps213
 go_wp2
 all_goals
  go_ret
  exact⟨ret_i (by rw[EV.out]<;>omega),rfl⟩
theorem As.days_cases (a b:Int):(As.dayB a=false∧As.days a b=0)∨(As.dayB a=true∧As.dayB b=false∧As.days a b=0)∨(As.dayB a=true∧As.dayB b=true∧b≤a∧As.days a b=0) ∨
  (As.dayB a=true∧As.dayB b=true∧¬b≤a∧(0≤a∧b≤36864)∧As.days a b=As.bef (b+1) - As.bef (a+1)):=by
 have ha:As.dayB a=true↔0≤a∧a≤36864:=by unfold As.dayB;simp
 have hb:As.dayB b=true↔0≤b∧b≤36864:=by unfold As.dayB;simp
 unfold As.days
 cases h1:As.dayB a
 ·exact .inl ⟨rfl,by simp⟩
 cases h2:As.dayB b
 ·exact .inr (.inl ⟨rfl,rfl,by simp⟩)
 by_cases h:b≤a
 ·exact .inr (.inr (.inl ⟨rfl,rfl,h,by rw[if_pos (.inr (.inr h))]⟩))
 ·have:=ha.1 h1
  have:=hb.1 h2;exact .inr (.inr (.inr ⟨rfl,rfl,h,by omega,by rw[if_neg];simp[h]⟩))
theorem days30_any (a b:Int)(w:World):Calls Tryz.prog 186 #[I O a,I O b] w fun e w' => e = .returned (I O (As.days a b))∧w=w' :=by
 have D1:=mh (fun (W:World)=>day30_any a W);have D2:=mh (fun (W:World)=>day30_any b W)
 rcases As.days_cases a b with⟨h1,h⟩|⟨h1,h2,h⟩|⟨h1,h2,h3,h⟩|⟨h1,h2,h3,h4,h⟩
 ·rw[h];rw[h1]at D1
  go_enter Tryz.func186,Tryz.ntmps186
  go_wp2_with (first|(go_at_call 184;(with_reducible refine cmo (D1.out _) ?_);rintro e w1 ⟨rfl,rfl⟩)|(go_at_call 184;(with_reducible refine cmo (D2.out _) ?_);rintro e w1 ⟨rfl,rfl⟩))
  go_ret
  exact⟨rfl,rfl⟩
 ·rw[h];rw[h1]at D1;rw[h2]at D2
  go_enter Tryz.func186,Tryz.ntmps186
  go_wp2_with (first|(go_at_call 184;(with_reducible refine cmo (D1.out _) ?_);rintro e w1 ⟨rfl,rfl⟩)|(go_at_call 184;(with_reducible refine cmo (D2.out _) ?_);rintro e w1 ⟨rfl,rfl⟩))
  go_ret
  exact⟨rfl,rfl⟩
 ·rw[h];rw[h1]at D1;rw[h2]at D2
  go_enter Tryz.func186,Tryz.ntmps186
  go_wp2_with (first|(go_at_call 184;(with_reducible refine cmo (D1.out _) ?_);rintro e w1 ⟨rfl,rfl⟩)|(go_at_call 184;(with_reducible refine cmo (D2.out _) ?_);rintro e w1 ⟨rfl,rfl⟩))
  go_ret
  exact⟨rfl,rfl⟩
 ·rw[h];rw[h1]at D1;rw[h2]at D2
  have w1:IntKind.i64.wrap (b+1)=b+1:=by rw[IntKind.wrap_i64];omega
  have w2:IntKind.i64.wrap (a+1)=a+1:=by rw[IntKind.wrap_i64];omega
  have B1:=mh (fun (W:World)=>before30_any (b+1) W (by omega) (by omega));have B2:=mh (fun (W:World)=>before30_any (a+1) W (by omega) (by omega));have hx:0≤As.bef (b+1)∧As.bef (b+1)≤36865:=by unfold As.bef;omega
  have hy:0≤As.bef (a+1)∧As.bef (a+1)≤36865:=by unfold As.bef;omega
  obtain⟨X,eX⟩:∃X,As.bef (b+1)=X:=⟨_,rfl⟩;obtain⟨Y,eY⟩:∃Y,As.bef (a+1)=Y:=⟨_,rfl⟩;rw[eX]at hx B1 ⊢;rw[eY]at hy B2 ⊢;have w3:IntKind.i64.wrap (X - Y)=X - Y:=by rw[IntKind.wrap_i64];omega
  clear h h4 eX eY
  go_enter Tryz.func186,Tryz.ntmps186
  go_wp2_with (first|(go_at_call 184;(with_reducible refine cmo (D1.out _) ?_);rintro e w1 ⟨rfl,rfl⟩)|(go_at_call 184;(with_reducible refine cmo (D2.out _) ?_);rintro e w1 ⟨rfl,rfl⟩)|(go_at_call 213;(with_reducible refine cmo (B1.out _) ?_);rintro e w1 ⟨rfl,rfl⟩)|(go_at_call 213;(with_reducible refine cmo (B2.out _) ?_);rintro e w1 ⟨rfl,rfl⟩))
  go_ret
  exact⟨rfl,rfl⟩
theorem area_any (n:Int)(w:World):Calls Tryz.prog 181 #[I O n] w fun e w' => e = .returned (.bool (Re.area n))∧w=w' :=by
 by_cases h:0≤n
 ·by_cases h2:n≤268435456
  ·rw[Re.area_iff.2 ⟨h,h2⟩]
   go_enter Tryz.func181,Tryz.ntmps181
   go_wp2
   go_ret
   exact⟨rfl,rfl⟩
  ·rw[Re.area_not.2 (.inr (by omega))]
   go_enter Tryz.func181,Tryz.ntmps181
   go_wp2
   go_ret
   exact⟨rfl,rfl⟩
 ·rw[Re.area_not.2 (.inl (by omega))]
  go_enter Tryz.func181,Tryz.ntmps181
  go_wp2
  go_ret
  exact⟨rfl,rfl⟩
theorem stOk {D:List (Int × Int)}{k:Nat}{x y lx ly:Int}(h:D.getD k (0,0)=(x,y))(hl:k≠0→D.getD (k - 1) (0,0)=(lx,ly)) :
  Re.okAt D k=true↔¬(x<0∨100000<x∨(k≠0∧x≤lx))∧((y = -1∧k+1=D.length)∨¬(y<0∨10<y∨(k≠0∧y<ly))):=by
 rw[Re.okAt_iff];unfold Re.ab Re.ti;rw[h]
 by_cases hk:k=0
 ·simp only;omega
 ·rw[hl hk]
  simp only;omega
theorem rchk_bad {D:List (Int × Int)}{k:Nat}(hk:k<D.length)(h:¬Re.okAt D k=true):Re.chk D=66:=Re.chk_not fun hR=>h (hR.ok k hk)
end Go.Proofs.YtefcalgjnkigjaaGreat
