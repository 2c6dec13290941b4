/- Packed. -/
import Derived.Test.YtefcalgjnkigjaaGreatK34
set_option maxRecDepth 100000
set_option maxHeartbeats 16000000
open Go.Value renaming int → I
open Go.IntKind renaming i64 → O
namespace Go.Proofs.YtefcalgjnkigjaaGreat
open Go.RowKit Sc As
theorem assessmentChecks_walk (a:Option Addr)(len cap:Nat)(z:List Int)(d0:Nat)(r0:RY)(Y0:YLaw)(p0:Option Addr)(F0:List FarmF)(c0:Nat)(x:Int)(w:World)
  (w0:IsRow .i64 w a len cap z) (hY:YV (fun _=>True) w d0 r0 Y0) (hF:FsAt (fun _=>True) w p0 F0) (hc:F0.length≤c0) (hs:SchLo F0) (hx:(Lit.int .i64 x).wf=true) :
  Calls Tryz.prog 3 #[.slice a len cap,.agg (yCells r0).toArray,.slice p0 F0.length c0,I O x] w fun e w' => e = .returned (.bool true)∧Below w.heap.size w w' :=by
 obtain⟨x0,x1⟩:=bd_i64 hx;have X0:=mh x0;have HAL:=mh ((brf w.heap.size w).alloc mle (.cells #[.slice r0.sp r0.sn r0.sc,.slice r0.tp r0.tn r0.tc,I O r0.due,I O r0.last,I O r0.mille,.slice r0.gp r0.gn r0.gc,I O r0.cap,I O r0.env,I O r0.unit,I O r0.width] 29));have B0:=mh (Blk.new w #[.slice r0.sp r0.sn r0.sc,.slice r0.tp r0.tn r0.tc,I O r0.due,I O r0.last,I O r0.mille,.slice r0.gp r0.gn r0.gc,I O r0.cap,I O r0.env,I O r0.unit,I O r0.width] 29);obtain⟨g0,eg0⟩:∃g,w.heap.size=g:=⟨_,rfl⟩;have GV:=mh (show g0<(w.alloc (.cells #[.slice r0.sp r0.sn r0.sc,.slice r0.tp r0.tn r0.tc,I O r0.due,I O r0.last,I O r0.mille,.slice r0.gp r0.gn r0.gc,I O r0.cap,I O r0.env,I O r0.unit,I O r0.width] 29)).heap.size from by simp;omega);have NW:=mh (new_any a len cap z _ (w0.below' HAL.out));have RY0:=mh (hY.below HAL.out);have RF0:=mh (hF.below HAL.out);have RC0:=mh hc;have RS0:=mh hs;have RSC:=mh hY.sc;obtain⟨l,el⟩:∃l,(z.take len).take 400=l:=⟨_,rfl⟩;rw[el]at NW;rw[eg0]at B0 HAL;have EG0:=mh eg0;clear el w0 hY hF hc hs hx x0 x1;simp only[yCells]
 go_enter Tryz.func3,Tryz.ntmps3
 go_upto_region 1 with fail
 try rw[eg0]
 clear eg0;generalize w.alloc (.cells #[.slice r0.sp r0.sn r0.sc,.slice r0.tp r0.tn r0.tc,I O r0.due,I O r0.last,I O r0.mille,.slice r0.gp r0.gn r0.gc,I O r0.cap,I O r0.env,I O r0.unit,I O r0.width] 29)=v at *;have k0:=B0.out.cell 0
 by_cases h8:(8:Int)<(r0.sn:Int)
 ·go_wp2_with (go_at_call 6;(with_reducible refine cmo (awake34_any _) ?_);rintro e wz ⟨rfl,hb⟩;have HB:=mh hb;clear hb)
  go_ret
  exact⟨rfl,by rw[EG0.out];exact HAL.out.trans (HB.out.mono (by have:=GV.out;omega))⟩
 by_cases h12:(12:Int)<(F0.length:Int)
 ·go_wp2_with (go_at_call 6;(with_reducible refine cmo (awake34_any _) ?_);rintro e wz ⟨rfl,hb⟩;have HB:=mh hb;clear hb)
  go_ret
  exact⟨rfl,by rw[EG0.out];exact HAL.out.trans (HB.out.mono (by have:=GV.out;omega))⟩
 go_upto_region 3 with fail
 clear k0 h8 h12
 go_wp2_with fail
 (with_reducible refine cmo NW.out ?_);rintro e w1 ⟨rfl,ht1,hb1⟩;have LW:=mh (law2_any v.heap.size l 0 w1 ht1);have HT1:=mh ht1.lt;have HB1:=mh hb1;clear NW ht1 hb1
 go_wp2_with fail
 (with_reducible refine cmo LW.out ?_);rintro e w2 ⟨d,r,Y,q,rfl,hy,hok,hlen,hdue,hsm,hp⟩;have O2:=mh (Opn.init (T:=29) HB1.out HT1.out hy hok hlen hdue hsm hp rfl);clear hy hok hlen hdue hsm hp LW;simp only[yCells]at O2 ⊢;obtain⟨g,eg⟩:∃g,w2.heap.size=g:=⟨_,rfl⟩;rw[eg]at O2;obtain⟨t,et⟩:∃t,v.heap.size=t:=⟨_,rfl⟩;have ET:=mh et;rw[et]at O2 ⊢;clear et HT1 HB1;have FM:=mh (O2.out.farms 3 (by omega));simp only[yCells]at FM
 go_wp2_with fail
 clear eg;generalize w2.alloc (.cells #[.slice r.sp r.sn r.sc,.slice r.tp r.tn r.tc,I O r.due,I O r.last,I O r.mille,.slice r.gp r.gn r.gc,I O r.cap,I O r.env,I O r.unit,I O r.width] 29)=w3 at *;(with_reducible refine cmo FM.out ?_);rintro e w4 ⟨pF,F,capF,q4,rfl,hcF,hO4,hF4, -⟩;have O4:=mh hO4;have F4:=mh hF4;have CF:=mh hcF;clear FM hO4 hF4 O2 hcF
 go_upto_region 6 with fail
 have SP:=mh (fun (W:World) (q:Nat) (y:Int) (h:TapeAt W t l q)=>spoilt34_any t l q y W h);unfold SpyG at SP;have MD:=mh (fun (W:World)=>mod_any x 300 W X0.out (by omega));obtain⟨xm,exm⟩:∃y,mod x 300=y:=⟨_,rfl⟩;rw[exm]at MD;clear exm;have O5:=mh (O4.out.below (brf w4.heap.size w4).drew);have F5:=mh (F4.out.below (brf w4.heap.size w4).drew)
 have KS:=mh (show ∀(W:World) (q:Nat),Opn v W t l q g d r Y→W.cell? ⟨g,0,none⟩=some (.slice r.sp r.sn r.sc)∧W.cell? ⟨g,1,none⟩=some (.slice r.tp r.tn r.tc)∧W.cell? ⟨g,2,none⟩=some (I O r.due)∧W.cell? ⟨g,3,none⟩=some (I O r.last)∧W.cell? ⟨g,4,none⟩=some (I O r.mille)∧W.cell? ⟨g,5,none⟩=some (.slice r.gp r.gn r.gc)∧W.cell? ⟨g,6,none⟩=some (I O r.cap)∧W.cell? ⟨g,7,none⟩=some (I O r.env)∧W.cell? ⟨g,8,none⟩=some (I O r.unit)∧W.cell? ⟨g,9,none⟩=some (I O r.width)∧W.cell? ⟨g0,0,none⟩=some (.slice r0.sp r0.sn r0.sc)∧W.cell? ⟨g0,1,none⟩=some (.slice r0.tp r0.tn r0.tc)∧W.cell? ⟨g0,2,none⟩=some (I O r0.due)∧W.cell? ⟨g0,3,none⟩=some (I O r0.last)∧W.cell? ⟨g0,4,none⟩=some (I O r0.mille)∧W.cell? ⟨g0,5,none⟩=some (.slice r0.gp r0.gn r0.gc)∧W.cell? ⟨g0,6,none⟩=some (I O r0.cap)∧W.cell? ⟨g0,7,none⟩=some (I O r0.env)∧W.cell? ⟨g0,8,none⟩=some (I O r0.unit)∧W.cell? ⟨g0,9,none⟩=some (I O r0.width) from fun W q h=>by
  have k:=h.vb;have m:=B0.out.below h.low;simp only[yCells]at k
  exact⟨k.cell 0,k.cell 1,k.cell 2,k.cell 3,k.cell 4,k.cell 5,k.cell 6,k.cell 7,k.cell 8,k.cell 9,m.cell 0,m.cell 1,m.cell 2,m.cell 3,m.cell 4,m.cell 5,m.cell 6,m.cell 7,m.cell 8,m.cell 9⟩)
 have K5:=KS.out _ _ O5.out;refine wp_region_held_drew (S:=fun w' => w'.cell? ⟨g,0,none⟩=some (.slice r.sp r.sn r.sc)∧w'.cell? ⟨g,1,none⟩=some (.slice r.tp r.tn r.tc)∧w'.cell? ⟨g,2,none⟩=some (I O r.due)∧w'.cell? ⟨g,3,none⟩=some (I O r.last)∧w'.cell? ⟨g,4,none⟩=some (I O r.mille)∧w'.cell? ⟨g,5,none⟩=some (.slice r.gp r.gn r.gc)∧w'.cell? ⟨g,6,none⟩=some (I O r.cap)∧w'.cell? ⟨g,7,none⟩=some (I O r.env)∧w'.cell? ⟨g,8,none⟩=some (I O r.unit)∧w'.cell? ⟨g,9,none⟩=some (I O r.width)∧w'.cell? ⟨g0,0,none⟩=some (.slice r0.sp r0.sn r0.sc)∧w'.cell? ⟨g0,1,none⟩=some (.slice r0.tp r0.tn r0.tc)∧w'.cell? ⟨g0,2,none⟩=some (I O r0.due)∧w'.cell? ⟨g0,3,none⟩=some (I O r0.last)∧w'.cell? ⟨g0,4,none⟩=some (I O r0.mille)∧w'.cell? ⟨g0,5,none⟩=some (.slice r0.gp r0.gn r0.gc)∧w'.cell? ⟨g0,6,none⟩=some (I O r0.cap)∧w'.cell? ⟨g0,7,none⟩=some (I O r0.env)∧w'.cell? ⟨g0,8,none⟩=some (I O r0.unit)∧w'.cell? ⟨g0,9,none⟩=some (I O r0.width)) (by kernel_rfl) K5 (fun hHeld=>?_);generalize w4.drew=w5 at *;refine tkH 0 33 hHeld ?_;refine tkH 1 34 hHeld ?_;refine tkH 2 35 hHeld ?_;refine tkH 4 37 hHeld ?_;refine tkH 5 38 hHeld ?_;refine tkH 8 41 hHeld ?_;refine tkH 11 44 hHeld ?_;clear K5;refine rdA 3 36 (fun K hK=>?_);go_simp;(with_reducible refine cmo (SP.out _ _ _ O5.out.tape) ?_);rintro e w6 ⟨d1,r1,Y1,q6,rfl,hy1,hp6⟩;have O6:=mh (O5.out.next hp6.tape hp6.but);have F6:=mh (F5.out.but hp6.but);have V1:=mh (show YV (fun b=>b≠t) w6 d1 r1 Y1 from hy1.change mle fun b k _=>⟨rfl,by have:=O5.out.tape.lt;unfold NewQ at k;omega⟩);have H6:=KS.out _ _ O6.out;clear hy1 hp6;simp only[yCells]
 go_wp2_with fail
 refine hK.out _ _ H6 (fun _=>?_)
 clear hK K
 (try dsimp only[Act.put])
 try simp only[mnA,mnB,mnC]
 refine rdA 6 39 (fun K hK=>?_)
 go_simp
 (with_reducible refine cmo (MD.out _) ?_);rintro e w6' ⟨rfl,rfl⟩
 go_wp2_with fail
 refine hK.out _ _ H6 (fun _=>?_)
 clear hK K
 (try dsimp only[Act.put])
 try simp only[mnA,mnB,mnC]
 refine rdA 7 40 (fun K hK=>?_)
 go_simp
 (with_reducible refine cmo (SP.out _ _ _ O6.out.tape) ?_);rintro e w7 ⟨d2,r2,Y2,q7,rfl,hy2,hp7⟩;have O7:=mh (O6.out.next hp7.tape hp7.but);have F7:=mh (F6.out.but hp7.but);have V12:=mh (V1.out.nt hp7.but);have V2:=mh (show YV (fun b=>b≠t) w7 d2 r2 Y2 from hy2.change mle fun b k _=>⟨rfl,by have:=O6.out.tape.lt;unfold NewQ at k;omega⟩);have H7:=KS.out _ _ O7.out;clear hy2 hp7;simp only[yCells]
 go_wp2_with fail
 refine hK.out _ _ H7 (fun _=>?_)
 clear hK K
 (try dsimp only[Act.put])
 try simp only[mnA,mnB,mnC]
 refine rdA 9 42 (fun K hK=>?_)
 go_simp
 have hal:=(brf w7.heap.size w7).alloc mle (.cells #[.slice r.sp r.sn r.sc,.slice r.tp r.tn r.tc,I O r.due,I O r.last,I O r.mille,.slice r.gp r.gn r.gc,I O r.cap,I O r.env,I O r.unit,I O r.width,.slice r1.sp r1.sn r1.sc,.slice r1.tp r1.tn r1.tc,I O r1.due,I O r1.last,I O r1.mille,.slice r1.gp r1.gn r1.gc,I O r1.cap,I O r1.env,I O r1.unit,I O r1.width,.slice r2.sp r2.sn r2.sc,.slice r2.tp r2.tn r2.tc,I O r2.due,I O r2.last,I O r2.mille,.slice r2.gp r2.gn r2.gc,I O r2.cap,I O r2.env,I O r2.unit,I O r2.width,.slice r0.sp r0.sn r0.sc,.slice r0.tp r0.tn r0.tc,I O r0.due,I O r0.last,I O r0.mille,.slice r0.gp r0.gn r0.gc,I O r0.cap,I O r0.env,I O r0.unit,I O r0.width] 29);have RW:=mh (show Recs SYl (w7.alloc (.cells #[.slice r.sp r.sn r.sc,.slice r.tp r.tn r.tc,I O r.due,I O r.last,I O r.mille,.slice r.gp r.gn r.gc,I O r.cap,I O r.env,I O r.unit,I O r.width,.slice r1.sp r1.sn r1.sc,.slice r1.tp r1.tn r1.tc,I O r1.due,I O r1.last,I O r1.mille,.slice r1.gp r1.gn r1.gc,I O r1.cap,I O r1.env,I O r1.unit,I O r1.width,.slice r2.sp r2.sn r2.sc,.slice r2.tp r2.tn r2.tc,I O r2.due,I O r2.last,I O r2.mille,.slice r2.gp r2.gn r2.gc,I O r2.cap,I O r2.env,I O r2.unit,I O r2.width,.slice r0.sp r0.sn r0.sc,.slice r0.tp r0.tn r0.tc,I O r0.due,I O r0.last,I O r0.mille,.slice r0.gp r0.gn r0.gc,I O r0.cap,I O r0.env,I O r0.unit,I O r0.width] 29)) (some ⟨w7.heap.size,0,none⟩) [r,r1,r2,r0] from Recs.lit (S:=SYl) w7 29 [r,r1,r2,r0] (by show 4≤_;unfold maxLen;omega))
 have A8:=mh (show CkA v (w7.alloc (.cells #[.slice r.sp r.sn r.sc,.slice r.tp r.tn r.tc,I O r.due,I O r.last,I O r.mille,.slice r.gp r.gn r.gc,I O r.cap,I O r.env,I O r.unit,I O r.width,.slice r1.sp r1.sn r1.sc,.slice r1.tp r1.tn r1.tc,I O r1.due,I O r1.last,I O r1.mille,.slice r1.gp r1.gn r1.gc,I O r1.cap,I O r1.env,I O r1.unit,I O r1.width,.slice r2.sp r2.sn r2.sc,.slice r2.tp r2.tn r2.tc,I O r2.due,I O r2.last,I O r2.mille,.slice r2.gp r2.gn r2.gc,I O r2.cap,I O r2.env,I O r2.unit,I O r2.width,.slice r0.sp r0.sn r0.sc,.slice r0.tp r0.tn r0.tc,I O r0.due,I O r0.last,I O r0.mille,.slice r0.gp r0.gn r0.gc,I O r0.cap,I O r0.env,I O r0.unit,I O r0.width] 29)) t l q7 w7.heap.size [r,r1,r2,r0] Y pF F 3 from by
  have O8:=O7.out.below hal;refine⟨O8.tape,O8.low,O8.wt,RW.out,O7.out.tape.lt,fun y hy=>?_,F7.out.below hal⟩;simp only[List.mem_cons,List.not_mem_nil,or_false]at hy
  rcases hy with rfl|rfl|rfl|rfl
  ·exact⟨d,Y,O8.yv.change mle fun b k _=>⟨rfl,by omega⟩⟩
  ·exact⟨d1,Y1,V12.out.below hal⟩
  ·exact⟨d2,Y2,V2.out.below hal⟩
  ·exact⟨d0,Y0,RY0.out.raw O8.low O8.wt⟩)
 have H8:=KS.out _ _ (O7.out.below hal);clear hal RW;refine hK.out _ _ H8 (fun _=>?_);clear hK K
 (try dsimp only[Act.put])
 try simp only[mnA,mnB,mnC]
 refine tkH 10 43 H8 ?_
 refine wpAnyH_done (by kernel_rfl) ?_ _
 have OKY:=mh (And.intro O7.out.ok.ne O7.out.len);clear hHeld H6 H7 H8 O4 O5 O6 O7 F4 F5 F6 F7 V1 V12 V2 KS SP MD B0;obtain⟨gA,egA⟩:∃g,w7.heap.size=g:=⟨_,rfl⟩;rw[egA]at A8 ⊢;clear egA;generalize w7.alloc (.cells #[.slice r.sp r.sn r.sc,.slice r.tp r.tn r.tc,I O r.due,I O r.last,I O r.mille,.slice r.gp r.gn r.gc,I O r.cap,I O r.env,I O r.unit,I O r.width,.slice r1.sp r1.sn r1.sc,.slice r1.tp r1.tn r1.tc,I O r1.due,I O r1.last,I O r1.mille,.slice r1.gp r1.gn r1.gc,I O r1.cap,I O r1.env,I O r1.unit,I O r1.width,.slice r2.sp r2.sn r2.sc,.slice r2.tp r2.tn r2.tc,I O r2.due,I O r2.last,I O r2.mille,.slice r2.gp r2.gn r2.gc,I O r2.cap,I O r2.env,I O r2.unit,I O r2.width,.slice r0.sp r0.sn r0.sc,.slice r0.tp r0.tn r0.tc,I O r0.due,I O r0.last,I O r0.mille,.slice r0.gp r0.gn r0.gc,I O r0.cap,I O r0.env,I O r0.unit,I O r0.width] 29)=w8 at *
 go_wp2_with fail
 try dsimp only[Act.put]
 try simp only[mnA,mnB,mnC]
 go_loopw [44] (fun iv W=>∃(k q:Nat),k≤4∧iv=I O k∧CkA v W t l q gA [r,r1,r2,r0] Y pF F 3) (fun iv _=>4 - (intOf iv).toNat)
 case atStart=>exact⟨0,_,by omega,rfl,A8.out⟩
 case round =>
  clear A8;obtain⟨wo,rfl⟩:∃wo:World,wo=wr:=⟨_,rfl⟩;obtain⟨k,q,hk,rfl,hA⟩:=hrel;have A0:=mh hA;have hk0:(0:Int)≤(k:Int):=inn _;clear hA
  by_cases hk4:k<4
  rotate_left
  ·obtain rfl:k=4:=by omega
   go_wp2_with (go_at_call 6;(with_reducible refine cmo (awake34_any _) ?_);rintro e wz ⟨rfl,hb⟩;have HB:=mh hb;clear hb)
   go_ret
   exact⟨rfl,by rw[EG0.out];exact HAL.out.trans ((A0.out.low.trans (HB.out.mono A0.out.low.size)).mono (by have:=GV.out;omega))⟩
  have hk5:(k:Int)<4:=by omega
  obtain⟨dk,Yk,hyv,hgA,m0,m1,m2,m3,m4,m5,m6,m7,m8,m9⟩:=A0.out.at (k:=k) (by show k<4;exact hk4);obtain⟨rk,erk⟩:∃rk, [r,r1,r2,r0][k]'(by show k<4;exact hk4)=rk:=⟨_,rfl⟩;rw[erk]at hyv m0 m1 m2 m3 m4 m5 m6 m7 m8 m9;have hal:=(brf wo.heap.size wo).alloc mle (.cells #[.slice rk.sp rk.sn rk.sc,.slice rk.tp rk.tn rk.tc,I O rk.due,I O rk.last,I O rk.mille,.slice rk.gp rk.gn rk.gc,I O rk.cap,I O rk.env,I O rk.unit,I O rk.width] 29);have A1:=mh (A0.out.below hal);have BK:=mh (Blk.new wo #[.slice rk.sp rk.sn rk.sc,.slice rk.tp rk.tn rk.tc,I O rk.due,I O rk.last,I O rk.mille,.slice rk.gp rk.gn rk.gc,I O rk.cap,I O rk.env,I O rk.unit,I O rk.width] 29);have VK:=mh (hyv.below hal);clear hyv erk hal
  go_upto_region 9 with fail
  obtain⟨gB,egB⟩:∃g,wo.heap.size=g:=⟨_,rfl⟩;rw[egB]at BK ⊢;have GBT:=mh (show t<gB from by have h1:=A0.out.tape.lt;omega);clear egB m0 m1 m2 m3 m4 m5 m6 m7 m8 m9;generalize wo.alloc (.cells #[.slice rk.sp rk.sn rk.sc,.slice rk.tp rk.tn rk.tc,I O rk.due,I O rk.last,I O rk.mille,.slice rk.gp rk.gn rk.gc,I O rk.cap,I O rk.env,I O rk.unit,I O rk.width] 29)=wa at *;have CK:=mh (fun (W:World) (h:YV (fun b=>b≠t) W dk rk Yk)=>check34_any dk rk Yk W h h.sc);have RK:=mh (fun (W:World) (h:YV (fun b=>b≠t) W dk rk Yk)=>refcheck34_any dk rk Yk W h h.sc);unfold IntG at CK RK;obtain⟨ck,eck⟩:∃y,chkY Yk=y:=⟨_,rfl⟩;rw[eck]at CK RK;simp only[yCells]at CK RK;clear eck;have A2:=mh (A1.out.below (brf wa.heap.size wa).drew);have BK2:=mh (BK.out.below (brf wa.heap.size wa).drew);have VK2:=mh (VK.out.below (brf wa.heap.size wa).drew);have K2:wa.drew.cell? ⟨gB,0,none⟩=some (.slice rk.sp rk.sn rk.sc)∧wa.drew.cell? ⟨gB,1,none⟩=some (.slice rk.tp rk.tn rk.tc)∧wa.drew.cell? ⟨gB,2,none⟩=some (I O rk.due)∧wa.drew.cell? ⟨gB,3,none⟩=some (I O rk.last)∧wa.drew.cell? ⟨gB,4,none⟩=some (I O rk.mille)∧wa.drew.cell? ⟨gB,5,none⟩=some (.slice rk.gp rk.gn rk.gc)∧wa.drew.cell? ⟨gB,6,none⟩=some (I O rk.cap)∧wa.drew.cell? ⟨gB,7,none⟩=some (I O rk.env)∧wa.drew.cell? ⟨gB,8,none⟩=some (I O rk.unit)∧wa.drew.cell? ⟨gB,9,none⟩=some (I O rk.width):=⟨BK2.out.cell 0,BK2.out.cell 1,BK2.out.cell 2,BK2.out.cell 3,BK2.out.cell 4,BK2.out.cell 5,BK2.out.cell 6,BK2.out.cell 7,BK2.out.cell 8,BK2.out.cell 9⟩;refine wp_region_held_drew (S:=fun w' => w'.cell? ⟨gB,0,none⟩=some (.slice rk.sp rk.sn rk.sc)∧w'.cell? ⟨gB,1,none⟩=some (.slice rk.tp rk.tn rk.tc)∧w'.cell? ⟨gB,2,none⟩=some (I O rk.due)∧w'.cell? ⟨gB,3,none⟩=some (I O rk.last)∧w'.cell? ⟨gB,4,none⟩=some (I O rk.mille)∧w'.cell? ⟨gB,5,none⟩=some (.slice rk.gp rk.gn rk.gc)∧w'.cell? ⟨gB,6,none⟩=some (I O rk.cap)∧w'.cell? ⟨gB,7,none⟩=some (I O rk.env)∧w'.cell? ⟨gB,8,none⟩=some (I O rk.unit)∧w'.cell? ⟨gB,9,none⟩=some (I O rk.width)) (by kernel_rfl) K2 (fun hHeld=>?_);generalize wa.drew=wb at *;refine tkH 0 48 hHeld ?_;refine tkH 2 50 hHeld ?_;refine rdA 1 49 (fun K hK=>?_);go_simp;(with_reducible refine cmo (CK.out _ VK2.out) ?_);rintro e wc ⟨rfl,hb⟩;have A3:=mh (A2.out.below hb);have BK3:=mh (BK2.out.below hb);have VK3:=mh (VK2.out.below hb);have K3:wc.cell? ⟨gB,0,none⟩=some (.slice rk.sp rk.sn rk.sc)∧wc.cell? ⟨gB,1,none⟩=some (.slice rk.tp rk.tn rk.tc)∧wc.cell? ⟨gB,2,none⟩=some (I O rk.due)∧wc.cell? ⟨gB,3,none⟩=some (I O rk.last)∧wc.cell? ⟨gB,4,none⟩=some (I O rk.mille)∧wc.cell? ⟨gB,5,none⟩=some (.slice rk.gp rk.gn rk.gc)∧wc.cell? ⟨gB,6,none⟩=some (I O rk.cap)∧wc.cell? ⟨gB,7,none⟩=some (I O rk.env)∧wc.cell? ⟨gB,8,none⟩=some (I O rk.unit)∧wc.cell? ⟨gB,9,none⟩=some (I O rk.width):=⟨BK3.out.cell 0,BK3.out.cell 1,BK3.out.cell 2,BK3.out.cell 3,BK3.out.cell 4,BK3.out.cell 5,BK3.out.cell 6,BK3.out.cell 7,BK3.out.cell 8,BK3.out.cell 9⟩
  clear hb
  go_wp2_with fail
  refine hK.out _ _ K3 (fun _=>?_)
  clear hK K
  (try dsimp only[Act.put])
  try simp only[mnA,mnB,mnC]
  refine rdA 3 51 (fun K hK=>?_)
  go_simp
  (with_reducible refine cmo (RK.out _ VK3.out) ?_);rintro e wd ⟨rfl,hb⟩;have A4:=mh (A3.out.below hb);have BK4:=mh (BK3.out.below hb);have VK4:=mh (VK3.out.below hb);have K4:wd.cell? ⟨gB,0,none⟩=some (.slice rk.sp rk.sn rk.sc)∧wd.cell? ⟨gB,1,none⟩=some (.slice rk.tp rk.tn rk.tc)∧wd.cell? ⟨gB,2,none⟩=some (I O rk.due)∧wd.cell? ⟨gB,3,none⟩=some (I O rk.last)∧wd.cell? ⟨gB,4,none⟩=some (I O rk.mille)∧wd.cell? ⟨gB,5,none⟩=some (.slice rk.gp rk.gn rk.gc)∧wd.cell? ⟨gB,6,none⟩=some (I O rk.cap)∧wd.cell? ⟨gB,7,none⟩=some (I O rk.env)∧wd.cell? ⟨gB,8,none⟩=some (I O rk.unit)∧wd.cell? ⟨gB,9,none⟩=some (I O rk.width):=⟨BK4.out.cell 0,BK4.out.cell 1,BK4.out.cell 2,BK4.out.cell 3,BK4.out.cell 4,BK4.out.cell 5,BK4.out.cell 6,BK4.out.cell 7,BK4.out.cell 8,BK4.out.cell 9⟩;clear hb
  go_wp2_with fail
  refine hK.out _ _ K4 (fun _=>?_)
  clear hK K
  (try dsimp only[Act.put])
  try simp only[mnA,mnB,mnC]
  refine tkH 4 52 K4 ?_
  refine wpAnyH_done (by kernel_rfl) ?_ _
  clear K2 hHeld K3 K4 A1 A2 A3 BK BK2 BK3 VK VK2 VK3 CK RK;have OD:=mh (fun (W:World) (q:Nat) (y:Int) (h:CkA v W t l q gA [r,r1,r2,r0] Y pF F 3) (hy : -9223372036854775808≤y)=>odd34_any t l q pF F F.length capF Y y W h.tape h.fm.at_ rfl h.fm.fm (by have:=h.fm.len;omega) (Nat.pos_of_ne_zero OKY.out.1) OKY.out.2 hy);unfold OddG at OD;have MD:=mh (fun (W:World)=>mod_any x 40 W X0.out (by omega));obtain⟨xm,exm⟩:∃y,mod x 40=y:=⟨_,rfl⟩;have hxm:0≤xm∧xm<40:=by rw[← exm];exact mod_bd x (by omega)
  rw[exm]at MD;have hxw:IntKind.i64.wrap (xm - 2)=xm - 2:=by rw[IntKind.wrap_i64];omega
  clear exm
  go_wp2_with (first
   | (go_at_call 14;(with_reducible refine cmo (OD.out _ _ _ A4.out X0.out) ?_);rintro e we ⟨p5,n5,c5,F5,q5,rfl,en5,lc5,hf5,hs5,tp5⟩;have A5:=mh (A4.out.next tp5.tape tp5.but);have BK5:=mh (BK4.out.but tp5.but (by have:=A4.out.tg;have:=GBT.out;omega));have VK5:=mh (VK4.out.nt tp5.but);have FS5:=mh (And.intro en5 (And.intro lc5 (And.intro (show FsAt (fun b=>b≠t) we p5 F5 from hf5.change mle fun b k _=>⟨rfl,by have:=A4.out.tape.lt;unfold NewQ at k;omega⟩) hs5)));clear en5 lc5 hf5 hs5 tp5)
   | (go_at_call 11;(with_reducible refine cmo (MD.out _) ?_);rintro e wm ⟨rfl,rfl⟩)
   | (go_at_call 14;(with_reducible refine cmo (OD.out _ _ _ A5.out (by have:=hxm.1;omega)) ?_);rintro e wf ⟨p6,n6,c6,F6,q6,rfl,en6,lc6,hf6,hs6,tp6⟩;have A6:=mh (A5.out.next tp6.tape tp6.but);have BK6:=mh (BK5.out.but tp6.but (by have:=A4.out.tg;have:=GBT.out;omega));have VK6:=mh (VK5.out.nt tp6.but);have FS56:=mh (And.intro FS5.out.1 (And.intro FS5.out.2.1 (And.intro (FS5.out.2.2.1.nt tp6.but) FS5.out.2.2.2)));have FS6:=mh (And.intro en6 (And.intro lc6 (And.intro (show FsAt (fun b=>b≠t) wf p6 F6 from hf6.change mle fun b k _=>⟨rfl,by have:=A5.out.tape.lt;unfold NewQ at k;omega⟩) hs6)));clear en6 lc6 hf6 hs6 tp6)
   | fail)
  have hal:=(brf wf.heap.size wf).alloc mle (.cells #[.slice pF F.length capF,.slice p5 n5 c5,.slice p6 n6 c6,.slice p0 F0.length c0] 30);have A7:=mh (A6.out.below hal)
  have B7:=mh (show CkB (wf.alloc (.cells #[.slice pF F.length capF,.slice p5 n5 c5,.slice p6 n6 c6,.slice p0 F0.length c0] 30)) t gB wf.heap.size rk dk Yk [⟨pF,F.length,capF⟩,⟨p5,n5,c5⟩,⟨p6,n6,c6⟩,⟨p0,F0.length,c0⟩] from by
   refine⟨BK6.out.below hal,VK6.out.below hal,Recs.lit (S:=SSl) wf 30 [⟨pF,F.length,capF⟩,⟨p5,n5,c5⟩,⟨p6,n6,c6⟩,⟨p0,F0.length,c0⟩] (by show 4≤_;unfold maxLen;omega),fun s hs=>?_⟩
   simp only[List.mem_cons,List.not_mem_nil,or_false]at hs
   rcases hs with rfl|rfl|rfl|rfl
   ·exact⟨F,rfl,CF.out,A6.out.fm.nt.below hal,A6.out.fm.lo⟩
   ·exact⟨F5,FS56.out.1,FS56.out.2.1,FS56.out.2.2.1.below hal,FS56.out.2.2.2⟩
   ·exact⟨F6,FS6.out.1,FS6.out.2.1,FS6.out.2.2.1.below hal,FS6.out.2.2.2⟩
   ·exact⟨F0,rfl,RC0.out,RF0.out.raw (A6.out.below hal).low A6.out.wt,RS0.out⟩)
  obtain⟨gS,egS⟩:∃g,wf.heap.size=g:=⟨_,rfl⟩;rw[egS]at B7 ⊢;clear egS hal;generalize wf.alloc (.cells #[.slice pF F.length capF,.slice p5 n5 c5,.slice p6 n6 c6,.slice p0 F0.length c0] 30)=wg at *;clear A4 A5 A6 BK4 BK5 BK6 VK4 VK5 VK6 FS5 FS56 FS6 OD MD hxw hxm
  try dsimp only[Act.put]
  try simp only[mnA,mnB,mnC]
  go_loopw [67] (fun iv W=>∃(j:Nat),j≤4∧iv=I O j∧CkA v W t l q6 gA [r,r1,r2,r0] Y pF F 3∧CkB W t gB gS rk dk Yk [⟨pF,F.length,capF⟩,⟨p5,n5,c5⟩,⟨p6,n6,c6⟩,⟨p0,F0.length,c0⟩]) (fun iv _=>4 - (intOf iv).toNat)
  case atStart=>exact⟨0,by omega,rfl,A7.out,B7.out⟩
  case round =>
   clear A7 B7;obtain⟨wi,rfl⟩:∃wi:World,wi=wr:=⟨_,rfl⟩;obtain⟨j,hj,rfl,hA,hB⟩:=hrel;have A8:=mh hA;have B8:=mh hB;have hj0:(0:Int)≤(j:Int):=inn _;clear hA hB
   by_cases hj4:j<4
   rotate_left
   ·obtain rfl:j=4:=by omega
    go_wp2_with fail
    go_roundw
    case rel=>exact⟨k+1,q6,by omega,by go_num,A8.out⟩
    case measure=>simp[intOf];omega
   have hj5:(j:Int)<4:=by omega
   obtain⟨pj,Fj,cj,hcj,hfj,hsj,cell,hgS⟩:=B8.out.at (k:=j) (by show j<4;exact hj4);have FJ:=mh hfj;have SJ:=mh hsj;clear hfj hsj
   go_upto_region 14 with fail
   have CK:=mh (fun (W:World) (h:CkB W t gB gS rk dk Yk [⟨pF,F.length,capF⟩,⟨p5,n5,c5⟩,⟨p6,n6,c6⟩,⟨p0,F0.length,c0⟩]) (hf:FsAt (fun b=>b≠t) W pj Fj)=>facts34_any dk rk Yk pj Fj cj W h.yv h.yv.sc hf);have RK:=mh (fun (W:World) (h:CkB W t gB gS rk dk Yk [⟨pF,F.length,capF⟩,⟨p5,n5,c5⟩,⟨p6,n6,c6⟩,⟨p0,F0.length,c0⟩]) (hf:FsAt (fun b=>b≠t) W pj Fj)=>reffacts34_any dk rk Yk pj Fj cj W h.yv h.yv.sc hf SJ.out);unfold IntG at CK RK;obtain⟨ck2,eck⟩:∃y,chkF Yk Fj=y:=⟨_,rfl⟩;rw[eck]at CK RK;simp only[yCells]at CK RK;clear eck cell;have A9:=mh (A8.out.below (brf wi.heap.size wi).drew);have B9:=mh (B8.out.below (brf wi.heap.size wi).drew);have F9:=mh (FJ.out.below (brf wi.heap.size wi).drew);have K2:wi.drew.cell? ⟨gB,0,none⟩=some (.slice rk.sp rk.sn rk.sc)∧wi.drew.cell? ⟨gB,1,none⟩=some (.slice rk.tp rk.tn rk.tc)∧wi.drew.cell? ⟨gB,2,none⟩=some (I O rk.due)∧wi.drew.cell? ⟨gB,3,none⟩=some (I O rk.last)∧wi.drew.cell? ⟨gB,4,none⟩=some (I O rk.mille)∧wi.drew.cell? ⟨gB,5,none⟩=some (.slice rk.gp rk.gn rk.gc)∧wi.drew.cell? ⟨gB,6,none⟩=some (I O rk.cap)∧wi.drew.cell? ⟨gB,7,none⟩=some (I O rk.env)∧wi.drew.cell? ⟨gB,8,none⟩=some (I O rk.unit)∧wi.drew.cell? ⟨gB,9,none⟩=some (I O rk.width):=⟨B9.out.bl.cell 0,B9.out.bl.cell 1,B9.out.bl.cell 2,B9.out.bl.cell 3,B9.out.bl.cell 4,B9.out.bl.cell 5,B9.out.bl.cell 6,B9.out.bl.cell 7,B9.out.bl.cell 8,B9.out.bl.cell 9⟩;refine wp_region_held_drew (S:=fun w' => w'.cell? ⟨gB,0,none⟩=some (.slice rk.sp rk.sn rk.sc)∧w'.cell? ⟨gB,1,none⟩=some (.slice rk.tp rk.tn rk.tc)∧w'.cell? ⟨gB,2,none⟩=some (I O rk.due)∧w'.cell? ⟨gB,3,none⟩=some (I O rk.last)∧w'.cell? ⟨gB,4,none⟩=some (I O rk.mille)∧w'.cell? ⟨gB,5,none⟩=some (.slice rk.gp rk.gn rk.gc)∧w'.cell? ⟨gB,6,none⟩=some (I O rk.cap)∧w'.cell? ⟨gB,7,none⟩=some (I O rk.env)∧w'.cell? ⟨gB,8,none⟩=some (I O rk.unit)∧w'.cell? ⟨gB,9,none⟩=some (I O rk.width)) (by kernel_rfl) K2 (fun hHeld=>?_);generalize wi.drew=wh at *;refine tkH 0 71 hHeld ?_;refine tkH 1 72 hHeld ?_;refine tkH 3 74 hHeld ?_;refine tkH 4 75 hHeld ?_;refine rdA 2 73 (fun K hK=>?_);go_simp;(with_reducible refine cmo (CK.out _ B9.out F9.out) ?_);rintro e wj ⟨rfl,hb⟩;have A10:=mh (A9.out.below hb);have B10:=mh (B9.out.below hb);have F10:=mh (F9.out.below hb);have K3:wj.cell? ⟨gB,0,none⟩=some (.slice rk.sp rk.sn rk.sc)∧wj.cell? ⟨gB,1,none⟩=some (.slice rk.tp rk.tn rk.tc)∧wj.cell? ⟨gB,2,none⟩=some (I O rk.due)∧wj.cell? ⟨gB,3,none⟩=some (I O rk.last)∧wj.cell? ⟨gB,4,none⟩=some (I O rk.mille)∧wj.cell? ⟨gB,5,none⟩=some (.slice rk.gp rk.gn rk.gc)∧wj.cell? ⟨gB,6,none⟩=some (I O rk.cap)∧wj.cell? ⟨gB,7,none⟩=some (I O rk.env)∧wj.cell? ⟨gB,8,none⟩=some (I O rk.unit)∧wj.cell? ⟨gB,9,none⟩=some (I O rk.width):=⟨B10.out.bl.cell 0,B10.out.bl.cell 1,B10.out.bl.cell 2,B10.out.bl.cell 3,B10.out.bl.cell 4,B10.out.bl.cell 5,B10.out.bl.cell 6,B10.out.bl.cell 7,B10.out.bl.cell 8,B10.out.bl.cell 9⟩
   clear hb
   go_wp2_with fail
   refine hK.out _ _ K3 (fun _=>?_)
   clear hK K
   (try dsimp only[Act.put])
   try simp only[mnA,mnB,mnC]
   refine rdA 5 76 (fun K hK=>?_)
   go_simp
   (with_reducible refine cmo (RK.out _ B10.out F10.out) ?_);rintro e wk ⟨rfl,hb⟩;have A11:=mh (A10.out.below hb);have B11:=mh (B10.out.below hb);have K4:wk.cell? ⟨gB,0,none⟩=some (.slice rk.sp rk.sn rk.sc)∧wk.cell? ⟨gB,1,none⟩=some (.slice rk.tp rk.tn rk.tc)∧wk.cell? ⟨gB,2,none⟩=some (I O rk.due)∧wk.cell? ⟨gB,3,none⟩=some (I O rk.last)∧wk.cell? ⟨gB,4,none⟩=some (I O rk.mille)∧wk.cell? ⟨gB,5,none⟩=some (.slice rk.gp rk.gn rk.gc)∧wk.cell? ⟨gB,6,none⟩=some (I O rk.cap)∧wk.cell? ⟨gB,7,none⟩=some (I O rk.env)∧wk.cell? ⟨gB,8,none⟩=some (I O rk.unit)∧wk.cell? ⟨gB,9,none⟩=some (I O rk.width):=⟨B11.out.bl.cell 0,B11.out.bl.cell 1,B11.out.bl.cell 2,B11.out.bl.cell 3,B11.out.bl.cell 4,B11.out.bl.cell 5,B11.out.bl.cell 6,B11.out.bl.cell 7,B11.out.bl.cell 8,B11.out.bl.cell 9⟩;clear hb
   go_wp2_with fail
   refine hK.out _ _ K4 (fun _=>?_)
   clear hK K
   (try dsimp only[Act.put])
   try simp only[mnA,mnB,mnC]
   refine tkH 6 77 K4 ?_
   refine wpAnyH_done (by kernel_rfl) ?_ _
   go_wp2_with fail
   go_roundw
   case rel=>exact⟨j+1,by omega,by go_num,A11.out,B11.out⟩
   case measure=>simp[intOf];omega
open Go.Deep Go.ChangeShapes Go.WideShapes
section
variable {H:Type} {enc:TypeId × Value→H} {P:Program} {W:World} {base:Nat} {spare:Nat→Bool} {held:Bool}
theorem take_one {cs:List Value}{i:Nat}{v:Value}(h:(cs.drop i).take 1 = [v]):cs[i]?=some v:=by
 have:=congrArg (fun l=>l[0]?) h
 simpa using this
end
end Go.Proofs.YtefcalgjnkigjaaGreat
namespace Go.Proofs.YtefcalgjnkigjaaGreat
open Go.RowKit Go.Deep Go.ChangeShapes Go.WideShapes Sc As
section
variable {H:Type} {enc:TypeId × Value→H} {P:Program} {W:World} {base:Nat} {spare:Nat→Bool} {held:Bool}
theorem open_rows {α β:Type} [Inhabited α] [Inhabited β] {S:Shape α} {Rel:α→β→Prop} {t e:TypeId} {fuel:Nat} {a:Option Addr} {len cap:Nat} {x:DataW H × List MemPlace}
  (ht:P.underlying t=some (.slice e)) (ce:P.cellsOf e=S.k)
  (hel:∀(n:Nat) (cs:List Value) (y:DataW H × List MemPlace),cs.length=S.k→DataW.trod enc P W base spare held n e cs=some y→∃r z,cs=S.cells r∧Rel r z)
  (h:DataW.trod enc P W base spare held fuel t [.slice a len cap]=some x):∃(R:List α) (L:List β),R.length=len∧L.length=len∧Recs S W a R∧(∀k (h1:k<R.length) (h2:k<L.length),Rel R[k] L[k])∧len≤cap∧(a=none→cap=0):=by
 rcases open_slice ht h with⟨hcs,_⟩|⟨ad,l,c,m,n,D,Pl,hcs,_,hl,hm,hmm,_,hx⟩
 ·simp at hcs
  obtain⟨rfl,rfl,rfl⟩:=hcs;exact⟨[], [],rfl,rfl,Recs.nil _ _,fun k h=>by simp at h,Nat.le_refl _,fun _=>rfl⟩
 simp at hcs
 obtain⟨rfl,rfl,rfl⟩:=hcs;have hlm:len≤m:=by rw[hmm];split<;>omega
 have each:∀i,i<len→∃d:α × β,(∀j u,(S.cells d.1)[j]?=some u→W.cell? (ad.add (i*S.k+j))=some u)∧Rel d.1 d.2:=by
  intro i hi;obtain⟨cs', h1,h2⟩:=hx i (by omega);rw[ce]at h1;obtain⟨_,hlen,hcell⟩:=World.cells?_some h1;obtain⟨r,z,e1,e2⟩:=hel n cs' _ hlen h2;refine⟨(r,z),fun j u hu=>?_,e2⟩;have hj:j<S.k:=by
   have:=(List.getElem?_eq_some_iff.1 hu).1;rw[S.len]at this;exact this
  have hc:=hcell j (by omega);rw[add_add]at hc;rw[hc,e1];exact hu
 obtain⟨f,hf⟩:=choose_lt each;refine⟨(List.range len).map fun i=>(f i).1,(List.range len).map fun i=>(f i).2,by simp,by simp,⟨by simp;omega,?_⟩,fun k h1 h2=>?_,by omega,fun h=>by cases h⟩
 rotate_left
 ·simp only[List.getElem_map,List.getElem_range]
  exact(hf k (by simpa using h1)).2
 by_cases hz:len=0
 ·subst hz;exact .inl rfl
 ·have hk:=S.pos
  have h0:=(hf 0 (by omega)).1 0 _ (List.getElem?_eq_getElem (by rw[S.len];exact hk));obtain⟨bb,off,spot⟩:=ad;have hspot:spot=none:=by simpa [Addr.add] using World.cell?_spot h0
  subst hspot;refine .inr ⟨bb,off,rfl,?_,fun q u hu=>?_⟩
  ·have:=World.block_lt_of_cell? W _ h0
   simpa [Addr.add] using this
  ·have hq:q<len*S.k:=by
    have:=(List.getElem?_eq_some_iff.1 hu).1;rw[Shape.flat_len]at this
    simpa using this
   have hi:q / S.k<len:=Nat.div_lt_of_lt_mul (by rw[Nat.mul_comm];exact hq);have hm:=Nat.mod_lt q hk;have e:q=q / S.k*S.k+q % S.k:=by rw[Nat.mul_comm];exact(Nat.div_add_mod q S.k).symm
   rw[e,S.flat_at _ (q / S.k) (by simpa using hi) (q % S.k) hm]at hu;simp only[List.getElem_map,List.getElem_range]at hu;have:=(hf (q / S.k) hi).1 (q % S.k) u hu;rw[Go.WideShapes.add_plain]at this;rw[e];exact this
theorem field_at {cs:List Value}{fs:Array Field}{xs:List (DataW H × List MemPlace)}{n i o k:Nat}{f:Field}(hf:∀(i:Nat) (f:Field),fs[i]?=some f→DataW.trod enc P W base spare held n f.type ((cs.drop f.offset).take (P.cellsOf f.type))=xs[i]?)
  (hl:xs.length=fs.size) (h:fs[i]?=some f) (ho:f.offset=o) (hc:P.cellsOf f.type=k):∃x,DataW.trod enc P W base spare held n f.type ((cs.drop o).take k)=some x:=by
 have:=hf i f h;rw[ho,hc]at this;obtain⟨hi, -⟩:=Array.getElem?_eq_some_iff.1 h;rw[List.getElem?_eq_getElem (by omega)]at this;exact⟨_,this⟩
theorem slice_in {t e:TypeId}{fuel:Nat}{cs:List Value}{i:Nat}{x:DataW H × List MemPlace}(ht:P.underlying t=some (.slice e))(h:DataW.trod enc P W base spare held fuel t ((cs.drop i).take 1)=some x):∃a n c,(cs.drop i).take 1 = [.slice a n c]:=by
 rcases open_slice ht h with⟨hcs,_⟩|⟨ad,l,c,m,n,D,Pl,hcs,_⟩
 ·exact⟨_,_,_,hcs⟩
 ·exact⟨_,_,_,hcs⟩
theorem open_intlist {t e:TypeId}{fuel:Nat}{a:Option Addr}{len cap:Nat}{x:DataW H × List MemPlace}(ht:P.underlying t=some (.slice e))(he:P.underlying e=some (.int .i64))(ce:P.cellsOf e=1)
  (h:DataW.trod enc P W base spare held fuel t [.slice a len cap]=some x):∃l:List Int,l.length=len∧Ints W a l∧len≤cap∧(a=none→cap=0)∧∀v∈l,(Lit.int .i64 v).wf=true:=by
 obtain⟨R,L,h1,h2,h3,h4,h5,h6⟩:=open_rows (S:=SI) (Rel:=fun (r:Int) (z:Unit)=>(Lit.int .i64 r).wf=true) ht ce (fun n cs y hl hy=>by
  obtain⟨v,ev, -,hv⟩:=DataW.trod_int he hy
  exact⟨v,(),ev,hv⟩) h
 exact⟨R,h1,h3.ints,h5,h6,fun v hv=>by
  obtain⟨k,hk,rfl⟩:=List.mem_iff_getElem.1 hv
  exact h4 k hk (by omega)⟩
theorem int_in {t:TypeId}{fuel:Nat}{cs:List Value}{i:Nat}{x:DataW H × List MemPlace}(ht:P.underlying t=some (.int .i64))(h:DataW.trod enc P W base spare held fuel t ((cs.drop i).take 1)=some x):∃v,cs[i]?=some (I O v)∧(Lit.int .i64 v).wf=true:=by
 obtain⟨v,e, -,hv⟩:=DataW.trod_int ht h;exact⟨v,take_one e,hv⟩
theorem drop_at {cs:List Value}{o k i:Nat}{v:Value}(h:((cs.drop o).take k)[i]?=some v):cs[o+i]?=some v:=by
 rw[List.getElem?_take]at h
 split at h
 ·rw[List.getElem?_drop]at h;exact h
 ·cases h
structure LineT (P:Program) (e:TypeId):Prop where
 ex:∃(f0 f1 f2 f3 f4:Field) (ei:TypeId) (g0 g1 m0 m1:Field),P.underlying e=some (.struct #[f0,f1,f2,f3,f4])∧(f0.offset=0∧f1.offset=1∧f2.offset=2∧f3.offset=3∧f4.offset=4)∧(P.cellsOf f0.type=1∧P.cellsOf f1.type=1∧P.cellsOf f2.type=1∧P.cellsOf f3.type=1∧P.cellsOf f4.type=3) ∧
  (P.underlying f0.type=some (.int .i64)∧P.underlying f1.type=some (.int .i64)∧P.underlying f2.type=some (.slice ei)∧P.underlying f3.type=some (.int .i64))∧P.underlying ei=some (.int .i64)∧P.cellsOf ei=1 ∧
  P.underlying f4.type=some (.struct #[g0,g1])∧(g0.offset=0∧g1.offset=1)∧(P.cellsOf g0.type=1∧P.cellsOf g1.type=2)∧P.underlying g0.type=some (.int .i64) ∧
  P.underlying g1.type=some (.struct #[m0,m1])∧(m0.offset=0∧m1.offset=1)∧(P.cellsOf m0.type=1∧P.cellsOf m1.type=1)∧(P.underlying m0.type=some (.int .i64)∧P.underlying m1.type=some (.int .i64))
theorem open_line {e:TypeId}(he:LineT P e){n:Nat}{cs:List Value}{y:DataW H × List MemPlace}(hl:cs.length=7)(h:DataW.trod enc P W base spare held n e cs=some y) :
  ∃(r:RL) (x:LineF),cs=lCells r∧LV (fun _=>True) W r x ∧ -9223372036854775808≤x.sch:=by
 obtain⟨f0,f1,f2,f3,f4,ei,g0,g1,m0,m1,hs,⟨o0,o1,o2,o3,o4⟩,⟨c0,c1,c2,c3,c4⟩,⟨t0,t1,t2,t3⟩,ti,ci,hs2,⟨p0,p1⟩,⟨d0,d1⟩,u0,hs3,⟨p2,p3⟩,⟨d2,d3⟩,⟨u1,u2⟩⟩:=he.ex;obtain⟨xs,k,_,_,_,hxl,hf⟩:=DataW.trod_struct hs h;obtain⟨y0,q0⟩:=field_at hf hxl (i:=0) (f:=f0) rfl o0 c0;obtain⟨y1,q1⟩:=field_at hf hxl (i:=1) (f:=f1) rfl o1 c1;obtain⟨y2,q2⟩:=field_at hf hxl (i:=2) (f:=f2) rfl o2 c2;obtain⟨y3,q3⟩:=field_at hf hxl (i:=3) (f:=f3) rfl o3 c3;obtain⟨y4,q4⟩:=field_at hf hxl (i:=4) (f:=f4) rfl o4 c4;obtain⟨v0,e0, -⟩:=int_in t0 q0;obtain⟨v1,e1,w1⟩:=int_in t1 q1;obtain⟨v3,e3, -⟩:=int_in t3 q3;obtain⟨a,m,c,e2⟩:=slice_in t2 q2;rw[e2]at q2;obtain⟨D,l1,l2,l3,l4, -⟩:=open_intlist t2 ti ci q2;obtain⟨xs2,k2,_,_,_,hxl2,hf2⟩:=DataW.trod_struct hs2 q4;obtain⟨z0,s0⟩:=field_at hf2 hxl2 (i:=0) (f:=g0) rfl p0 d0;obtain⟨z1,s1⟩:=field_at hf2 hxl2 (i:=1) (f:=g1) rfl p1 d1;obtain⟨xs3,k3,_,_,_,hxl3,hf3⟩:=DataW.trod_struct hs3 s1;obtain⟨z2,s2⟩:=field_at hf3 hxl3 (i:=0) (f:=m0) rfl p2 d2;obtain⟨z3,s3⟩:=field_at hf3 hxl3 (i:=1) (f:=m1) rfl p3 d3;obtain⟨k0,e4, -⟩:=int_in u0 s0;obtain⟨k1,e5, -⟩:=int_in u1 s2;obtain⟨k2,e6, -⟩:=int_in u2 s3;have e4:=drop_at e4;have e5:=drop_at (drop_at e5);have e6:=drop_at (drop_at e6);have e2:=take_one e2;refine⟨⟨v0,v1,a,m,c,v3,k0,k1,k2⟩,{ decl:=v0,sch:=v1,due:=D,season:=v3,kind:=k0,area:=k1,border:=k2 },?_,⟨rfl,rfl,l2,l1.symm,l3,l4,fun _ _ => .inr trivial,rfl,rfl,rfl,rfl⟩,(bd_i64 w1).1⟩
 match cs,hl with
 | [z0,z1,z2,z3,z4,z5,z6],_ =>
   simp at e0 e1 e2 e3 e4 e5 e6
   subst e0 e1 e2 e3 e4 e5 e6
   rfl
structure FarmT (P:Program) (e:TypeId):Prop where
 ex:∃(f0 f1 f2:Field) (el:TypeId),P.underlying e=some (.struct #[f0,f1,f2])∧(f0.offset=0∧f1.offset=1∧f2.offset=2)∧(P.cellsOf f0.type=1∧P.cellsOf f1.type=1∧P.cellsOf f2.type=1) ∧
  (P.underlying f0.type=some (.int .i64)∧P.underlying f1.type=some (.int .i64)∧P.underlying f2.type=some (.slice el))∧P.cellsOf el=7∧LineT P el
theorem open_farm {e:TypeId}(he:FarmT P e){n:Nat}{cs:List Value}{y:DataW H × List MemPlace}(hl:cs.length=3)(h:DataW.trod enc P W base spare held n e cs=some y) :
  ∃(r:RF) (f:FarmF),cs=fCells r∧FV (fun _=>True) W r f∧∀x∈f.lines, -9223372036854775808≤x.sch:=by
 obtain⟨f0,f1,f2,el,hs,⟨o0,o1,o2⟩,⟨c0,c1,c2⟩,⟨t0,t1,t2⟩,ce,hlt⟩:=he.ex;obtain⟨xs,k,_,_,_,hxl,hf⟩:=DataW.trod_struct hs h;obtain⟨y0,q0⟩:=field_at hf hxl (i:=0) (f:=f0) rfl o0 c0;obtain⟨y1,q1⟩:=field_at hf hxl (i:=1) (f:=f1) rfl o1 c1;obtain⟨y2,q2⟩:=field_at hf hxl (i:=2) (f:=f2) rfl o2 c2;obtain⟨v0,e0, -⟩:=int_in t0 q0;obtain⟨v1,e1, -⟩:=int_in t1 q1;obtain⟨a,m,c,e2⟩:=slice_in t2 q2;rw[e2]at q2
 letI:Inhabited RL:=⟨⟨0,0,none,0,0,0,0,0,0⟩⟩
 letI:Inhabited LineF:=⟨{ decl:=0,sch:=0,due := [],season:=0,kind:=0,area:=0,border:=0 }⟩
 obtain⟨R,L,l1,l2,l3,l4,l5,l6⟩:=open_rows (S:=SL) (Rel:=fun r x=>LV (fun _=>True) W r x ∧ -9223372036854775808≤x.sch) t2 ce (fun n cs y hl hy=>by
  obtain⟨r,x,h1,h2,h3⟩:=open_line hlt hl hy
  exact⟨r,x,h1,h2,h3⟩) q2
 have e2:=take_one e2;refine⟨⟨v0,v1,a,m,c⟩,{ farm:=v0,day:=v1,lines:=L },?_,⟨rfl,rfl,⟨⟨R,by rw[l1,l2],l3,fun k h1 h2=>(l4 k h1 h2).1⟩,fun _ _ => .inr trivial⟩,l2.symm,l5,l6⟩,fun x hx=>?_⟩
 ·match cs,hl with
  | [z0,z1,z2],_ =>
    simp at e0 e1 e2
    subst e0 e1 e2
    rfl
 ·obtain⟨k,hk,rfl⟩:=List.mem_iff_getElem.1 hx
  exact(l4 k (by rw[l1,← l2];exact hk) hk).2
theorem open_farms {t e:TypeId}{fuel:Nat}{a:Option Addr}{len cap:Nat}{x:DataW H × List MemPlace}(ht:P.underlying t=some (.slice e))(ce:P.cellsOf e=3)(he:FarmT P e)
  (h:DataW.trod enc P W base spare held fuel t [.slice a len cap]=some x):∃F:List FarmF,F.length=len∧FsAt (fun _=>True) W a F∧len≤cap∧(a=none→cap=0)∧∀f∈F,∀x∈f.lines, -9223372036854775808≤x.sch:=by
 letI:Inhabited RF:=⟨⟨0,0,none,0,0⟩⟩
 letI:Inhabited FarmF:=⟨{ farm:=0,day:=0,lines := [] }⟩
 obtain⟨R,L,l1,l2,l3,l4,l5,l6⟩:=open_rows (S:=SF) (Rel:=fun r f=>FV (fun _=>True) W r f∧∀x∈f.lines, -9223372036854775808≤x.sch) ht ce (fun n cs y hl hy=>by
  obtain⟨r,x,h1,h2,h3⟩:=open_farm he hl hy
  exact⟨r,x,h1,h2,h3⟩) h
 exact⟨L,l2,⟨⟨R,by rw[l1,l2],l3,fun k h1 h2=>(l4 k h1 h2).1⟩,fun _ _ => .inr trivial⟩,l5,l6,fun f hf=>by
  obtain⟨k,hk,rfl⟩:=List.mem_iff_getElem.1 hf
  exact(l4 k (by rw[l1,← l2];exact hk) hk).2⟩
end
end Go.Proofs.YtefcalgjnkigjaaGreat
namespace Go.Proofs.YtefcalgjnkigjaaGreat
open Go.RowKit Go.Deep Go.ChangeShapes Go.WideShapes
theorem open_pairs {H:Type}{enc:TypeId × Value→H}{P:Program}{W:World}{base:Nat}{spare:Nat→Bool}{held:Bool}{t e:TypeId}{f0 f1:Field}{fuel:Nat}{a:Option Addr}{len cap:Nat}{x:DataW H × List MemPlace}
  (ht:P.underlying t=some (.slice e)) (he:P.underlying e=some (.struct #[f0,f1])) (ce:P.cellsOf e=2) (o0:f0.offset=0) (o1:f1.offset=1) (c0:P.cellsOf f0.type=1) (c1:P.cellsOf f1.type=1)
  (t0:P.underlying f0.type=some (.int .i64)) (t1:P.underlying f1.type=some (.int .i64))
  (h:DataW.trod enc P W base spare held fuel t [.slice a len cap]=some x):∃D:List (Int × Int),D.length=len∧Pairs W a D:=by
 rcases open_slice_pairs ht he ce o0 o1 c0 c1 h with⟨hcs,_⟩|⟨b,l,c,m,n,V0,V1,D0,D1,P0,P1,hcs,_,hl,hm,hmm,_,hx⟩
 ·simp at hcs
  obtain⟨rfl,rfl,rfl⟩:=hcs;exact⟨[],rfl,Pairs.nil _ _⟩
 ·simp at hcs
  obtain⟨rfl,rfl,rfl⟩:=hcs;have hlm:len≤m:=by rw[hmm];split<;>omega
  have each:∀i,i<len→∃d:Int × Int,W.cell? (b.add (i*2))=some (I O d.1)∧W.cell? (b.add (i*2+1))=some (I O d.2):=fun i hi=>by
   obtain⟨h0,h1,r0,r1⟩:=hx i (by omega);obtain⟨n0,e0,_⟩:=DataW.trod_int t0 r0;obtain⟨n1,e1,_⟩:=DataW.trod_int t1 r1;simp only[List.cons.injEq,and_true]at e0 e1;exact⟨(n0,n1),by rw[h0,e0],by rw[h1,e1]⟩
  obtain⟨f,hf⟩:=choose_lt each;refine⟨(List.range len).map f,by simp,⟨by simp;omega,?_⟩⟩
  by_cases hz:len=0
  ·subst hz;exact .inl rfl
  ·have h0:=(hf 0 (by omega)).1
   obtain⟨bb,off,spot⟩:=b;have hspot:spot=none:=by simpa [Addr.add] using World.cell?_spot h0
   subst hspot;refine .inr ⟨bb,off,rfl,?_,fun j hj=>?_⟩
   ·have:=World.block_lt_of_cell? W _ h0
    simpa [Addr.add] using this
   ·have hj' : j<len:=by simpa using hj
    have e:((List.range len).map f).getD j (0,0)=f j:=by simp[List.getD_eq_getElem?_getD,hj']
    obtain⟨g0,g1⟩:=hf j hj'; rw[Go.WideShapes.add_plain]at g0 g1;rw[e];exact⟨g0,g1⟩
end Go.Proofs.YtefcalgjnkigjaaGreat
