/- Packed. -/
import Derived.Test.YtefcalgjnkigjaaGreatL39
set_option maxRecDepth 100000
set_option maxHeartbeats 16000000
open Go.Value renaming int → I
open Go.IntKind renaming i64 → O
namespace Go.Proofs.YtefcalgjnkigjaaGreat
open Go.RowKit Sc As
theorem As.assess_due (l:YLaw)(F:List FarmF):Due (yP l F):=by
 by_cases h:jR l F=0
 ·have hc:xG l F=0:=by
   by_cases h0:xG l F=0
   ·exact h0
   ·unfold jR at h;rw[if_pos h0]at h;exact absurd h h0
  exact(As.falls (fOk hc) h).due
 ·have e:yP l F = []:=by unfold yP;rw[if_pos h]
  rw[e];exact⟨by simp,fun a ha=>by cases ha⟩
theorem qX.stepAny {α:Type}{S:jJ α}{P:Program}{T TS:TypeId}{bytes:Nat}(he:fP S P T TS bytes){w:World}{ops:Array Oper}{o:Oper}{a:Act}{K:Act→World→Prop}{Q:Exit→Act→World→Prop}{E:Prop}(hgd:o.guard=none)(s x:Operand)
  (ho:o.op = .call { callee := .builtin .append,args:=#[s,x],argTypes:=#[TS,TS] }) (B:Nat) (v:Value) (L M:List α) (p:Option Addr) (c n:Nat) (hM:M.length=n) (hown:qX S w T B v L) (hsrc:qD S w p M) (hs:a.eval s=v)
  (hx:a.eval x = .slice p n c) (hB:B≤w.heap.size) (hn:L.length+n<1073741824) (hby:bytes≤65536)
  (h:∀v' w', qX S w' T B v' (L++M)→jN w w' B w.heap.size v v' → K (a.put o.dst v') w'):if Region.wanted o (yielded ops a.tmps)=true then Oper.wp P o a w K Q else E:=by
 cases p with
 | none =>
   subst hM;obtain⟨i0,z,e1,e2,e3,e4,e5⟩:=he.ex;have hM:M = []:=by
    rcases hsrc.2 with h|⟨b,off,h,_⟩
    ·exact h
    ·cases h
   subst hM;have hr:=h v w (by rw[List.append_nil];exact hown) ⟨brf _ _,Nat.le_refl _,fun _ _ _=>rfl,.inl rfl⟩;have hw:Region.wanted o (yielded ops a.tmps)=true:=by simp[Region.wanted,hgd]
   rw[if_pos hw];have hrun:=vG (P:=P) (w:=w) B TS o.type T i0 S.k he.ts e1 v L.length c (S.flat L) hown;unfold Oper.wp
   simp[execOp,ho,resolve,invoke,builtin,hs,hx,hrun,Result.andThen]
   exact hr
 | some ad=>exact qX.stepAp he hgd s x ho B v L M (some ad) c n hM hown hsrc (fun h=>by cases h) hs hx hB hn hby h
structure CkD (W:World) (t g:Nat) (r:RY) (d:Nat) (Y:YLaw) (p:Option Addr) (F:List FarmF):Prop where
 bl:Blk W g (yCells r).toArray 29
 yv:YV (fun b=>b≠t) W d r Y
 fs:yF (fun b=>b≠t) W p F
theorem CkD.below {W W' : World}{t g d:Nat}{r:RY}{Y:YLaw}{p:Option Addr}{F:List FarmF}(h:CkD W t g r d Y p F)(hb:Below W.heap.size W W'):CkD W' t g r d Y p F:=⟨h.bl.below hb,h.yv.below hb,h.fs.below hb⟩
theorem FV.raw {v W:World}{t:Nat}{r:RF}{f:FarmF}(h:FV (fun _=>True) v r f)(hb:Below v.heap.size v W)(ht:v.heap.size≤t):FV (fun b=>b≠t) W r f:=h.lt.change hb.size fun b k hl=>⟨hb.block b hl,by omega⟩
theorem rZ {W W' : World}{t B n c:Nat}{p:Option Addr}{R:List RF}{F:List FarmF}{r:RF}{f:FarmF}(hl:R.length=F.length)(hV:∀k (a:k<R.length) (b:k<F.length),FV (fun b=>b≠t) W R[k] F[k])(hf:FV (fun b=>b≠t) W r f)(hb:Below W.heap.size W W')(ht:t<B)
  (hO:qX SF W' 47 B (.slice p n c) (R ++ [r])):n=F.length+1∧n≤c∧yF (fun b=>b≠t) W' p (F ++ [f]):=by
 obtain⟨p', c', e,k1,k2,k3,k4,k5⟩:=hO.cut (n:=F.length+1) (by rw[lap,hl];rfl)
 cases e
 refine⟨rfl,k3,⟨⟨R ++ [r],by rw[lap,lap,hl];rfl,k5,fun k a b=>?_⟩,fun a ea => .inr (by have:=(k2 a ea).2.2.1;omega)⟩⟩
 by_cases hk:k<R.length
 ·rw[List.getElem_append_left hk,List.getElem_append_left (by omega)]
  exact(hV k hk (by omega)).below hb
 ·have a' : k<R.length+1:=by simpa using a
  obtain rfl:k=R.length:=by omega
  rw[List.getElem_append_right (by omega),List.getElem_append_right (by omega)];simp only[hl,Nat.sub_self,List.getElem_cons_zero];exact hf.below hb
theorem cut6 {G:Nat→Nat→Value→Option Addr→Nat→World→Prop}{P:Option Addr→World→Prop}{X:Prop}(main:RowKit.Hid (∀ge gl v5 p6 c6 w6,P p6 w6→G ge gl v5 p6 c6 w6)→X)(tail:∀ge gl v5 p6 c6 w6,P p6 w6→G ge gl v5 p6 c6 w6):X:=main (mh tail)
theorem xK.snoc {F:List FarmF}{f:FarmF}(h:xK F)(hf:∀x∈f.lines, -9223372036854775808≤x.sch):xK (F ++ [f]):=fun g hg=>(List.mem_append.1 hg).elim (h g) fun e=>by rw[List.mem_singleton.1 e];exact hf
theorem assessmentAnswers_walk (a:Option Addr)(len cap:Nat)(z:List Int)(d0:Nat)(r0:RY)(Y0:YLaw)(s0:RF)(f0:FarmF)(x:Int)(w:World)
  (w0:IsRow .i64 w a len cap z) (hY:YV (fun _=>True) w d0 r0 Y0) (hF:FV (fun _=>True) w s0 f0) (hs:∀y∈f0.lines, -9223372036854775808≤y.sch) (hx:(Lit.int .i64 x).wf=true) :
  Calls Tryz.prog 4 #[.slice a len cap,.agg (yCells r0).toArray,.agg (fCells s0).toArray,I O x] w fun e w' => e = .returned (.bool true)∧Below w.heap.size w w' :=by
 obtain⟨x0,x1⟩:=kZA hx;have X0:=mh x0;have HA1:=mh ((brf w.heap.size w).alloc mle (.cells #[.slice r0.sp r0.sn r0.sc,.slice r0.tp r0.tn r0.tc,I O r0.due,I O r0.last,I O r0.mille,.slice r0.gp r0.gn r0.gc,I O r0.cap,I O r0.env,I O r0.unit,I O r0.width] 29));have HA2:=mh ((brf (w.alloc (.cells #[.slice r0.sp r0.sn r0.sc,.slice r0.tp r0.tn r0.tc,I O r0.due,I O r0.last,I O r0.mille,.slice r0.gp r0.gn r0.gc,I O r0.cap,I O r0.env,I O r0.unit,I O r0.width] 29)).heap.size (w.alloc (.cells #[.slice r0.sp r0.sn r0.sc,.slice r0.tp r0.tn r0.tc,I O r0.due,I O r0.last,I O r0.mille,.slice r0.gp r0.gn r0.gc,I O r0.cap,I O r0.env,I O r0.unit,I O r0.width] 29))).alloc mle (.cells #[I O s0.farm,I O s0.day,.slice s0.lp s0.ln s0.lc] 47));have HAL:=mh (HA1.trans (HA2.mono HA1.size));obtain⟨g0,eg0⟩:∃g,w.heap.size=g:=⟨_,rfl⟩;have B0:=mh ((eg0▸Blk.new w #[.slice r0.sp r0.sn r0.sc,.slice r0.tp r0.tn r0.tc,I O r0.due,I O r0.last,I O r0.mille,.slice r0.gp r0.gn r0.gc,I O r0.cap,I O r0.env,I O r0.unit,I O r0.width] 29:Blk (w.alloc (.cells #[.slice r0.sp r0.sn r0.sc,.slice r0.tp r0.tn r0.tc,I O r0.due,I O r0.last,I O r0.mille,.slice r0.gp r0.gn r0.gc,I O r0.cap,I O r0.env,I O r0.unit,I O r0.width] 29)) g0 #[.slice r0.sp r0.sn r0.sc,.slice r0.tp r0.tn r0.tc,I O r0.due,I O r0.last,I O r0.mille,.slice r0.gp r0.gn r0.gc,I O r0.cap,I O r0.env,I O r0.unit,I O r0.width] 29).below HA2.out)
 have C0:=mh (show Blk ((w.alloc (.cells #[.slice r0.sp r0.sn r0.sc,.slice r0.tp r0.tn r0.tc,I O r0.due,I O r0.last,I O r0.mille,.slice r0.gp r0.gn r0.gc,I O r0.cap,I O r0.env,I O r0.unit,I O r0.width] 29)).alloc (.cells #[I O s0.farm,I O s0.day,.slice s0.lp s0.ln s0.lc] 47)) (g0+1) #[I O s0.farm,I O s0.day,.slice s0.lp s0.ln s0.lc] 47 from by
  have:=Blk.new (w.alloc (.cells #[.slice r0.sp r0.sn r0.sc,.slice r0.tp r0.tn r0.tc,I O r0.due,I O r0.last,I O r0.mille,.slice r0.gp r0.gn r0.gc,I O r0.cap,I O r0.env,I O r0.unit,I O r0.width] 29)) #[I O s0.farm,I O s0.day,.slice s0.lp s0.ln s0.lc] 47
  rwa [World.size_alloc,eg0]at this)
 have GV:=mh (show g0+1<((w.alloc (.cells #[.slice r0.sp r0.sn r0.sc,.slice r0.tp r0.tn r0.tc,I O r0.due,I O r0.last,I O r0.mille,.slice r0.gp r0.gn r0.gc,I O r0.cap,I O r0.env,I O r0.unit,I O r0.width] 29)).alloc (.cells #[I O s0.farm,I O s0.day,.slice s0.lp s0.ln s0.lc] 47)).heap.size from by rw[World.size_alloc,World.size_alloc];omega);have NW:=mh (uRA a len cap z _ (w0.below' HAL.out));have RY0:=mh (hY.below HAL.out);have RF0:=mh (hF.below HAL.out);have RS0:=mh hs;have RLN:=mh hF.ln;obtain⟨l,el⟩:∃l,(z.take len).take 400=l:=⟨_,rfl⟩;rw[el]at NW;rw[eg0]at HAL;have EG0:=mh eg0;clear el w0 hY hF hs hx x0 x1 HA1 HA2;simp only[yCells,fCells]
 go_enter Tryz.func4,Tryz.ntmps4
 go_upto_region 1 with fail
 try rw[World.size_alloc,eg0]
 clear eg0;generalize (w.alloc (.cells #[.slice r0.sp r0.sn r0.sc,.slice r0.tp r0.tn r0.tc,I O r0.due,I O r0.last,I O r0.mille,.slice r0.gp r0.gn r0.gc,I O r0.cap,I O r0.env,I O r0.unit,I O r0.width] 29)).alloc (.cells #[I O s0.farm,I O s0.day,.slice s0.lp s0.ln s0.lc] 47)=v at *;have k0:=B0.cell 0;have k2:=C0.cell 2
 by_cases h8:(8:Int)<(r0.sn:Int)
 ·go_wp2_with (go_at_call 6;(with_reducible refine cmo (uH _) ?_);rintro e wz ⟨rfl,hb⟩;have HB:=mh hb;clear hb)
  go_ret
  exact⟨rfl,by rw[EG0.out];exact HAL.trans (HB.mono (by have:=GV.out;omega))⟩
 by_cases h12:(25:Int)<(s0.ln:Int)
 ·go_wp2_with (go_at_call 6;(with_reducible refine cmo (uH _) ?_);rintro e wz ⟨rfl,hb⟩;have HB:=mh hb;clear hb)
  go_ret
  exact⟨rfl,by rw[EG0.out];exact HAL.trans (HB.mono (by have:=GV.out;omega))⟩
 go_upto_region 3 with fail
 clear k0 k2 h8 h12
 go_wp2_with fail
 (with_reducible refine cmo NW.out ?_);rintro e w1 ⟨rfl,ht1,hb1⟩;have LW:=mh (aZ v.heap.size l 0 w1 ht1);have HT1:=mh ht1.lt;have HB1:=mh hb1;clear NW ht1 hb1
 go_wp2_with fail
 (with_reducible refine cmo LW.out ?_);rintro e w2 ⟨d,r,Y,q,rfl,hy,hok,hlen,hdue,hsm,hp⟩;have O2:=mh (Opn.init (T:=29) HB1.out HT1.out hy hok hlen hdue hsm hp rfl);clear hy hok hlen hdue hsm hp LW;simp only[yCells]at O2 ⊢;obtain⟨g,eg⟩:∃g,w2.heap.size=g:=⟨_,rfl⟩;rw[eg]at O2;obtain⟨t,et⟩:∃t,v.heap.size=t:=⟨_,rfl⟩;have ET:=mh et;rw[et]at O2 ⊢;clear et HT1 HB1;have FM:=mh (O2.farms 4 (by omega));simp only[yCells]at FM
 go_wp2_with fail
 clear eg;generalize w2.alloc (.cells #[.slice r.sp r.sn r.sc,.slice r.tp r.tn r.tc,I O r.due,I O r.last,I O r.mille,.slice r.gp r.gn r.gc,I O r.cap,I O r.env,I O r.unit,I O r.width] 29)=w3 at *;(with_reducible refine cmo FM.out ?_);rintro e w4 ⟨pF,F,capF,q4,rfl,hcF,hO4,hF4, -⟩;have O4:=mh hO4;have F4:=mh hF4;have CF:=mh hcF;clear FM hO4 hF4 O2 hcF
 go_upto_region 6 with fail
 have SP:=mh (fun (W:World) (q:Nat) (y:Int) (h:qV W t l q)=>rT t l q y W h);unfold SpyG at SP;have O5:=mh (O4.below (brf w4.heap.size w4).drew);have F5:=mh (F4.below (brf w4.heap.size w4).drew)
 have KS:=mh (show ∀(W:World) (q:Nat),Opn v W t l q g d r Y→W.cell? ⟨g,0,none⟩=some (.slice r.sp r.sn r.sc)∧W.cell? ⟨g,1,none⟩=some (.slice r.tp r.tn r.tc)∧W.cell? ⟨g,2,none⟩=some (I O r.due)∧W.cell? ⟨g,3,none⟩=some (I O r.last)∧W.cell? ⟨g,4,none⟩=some (I O r.mille)∧W.cell? ⟨g,5,none⟩=some (.slice r.gp r.gn r.gc)∧W.cell? ⟨g,6,none⟩=some (I O r.cap)∧W.cell? ⟨g,7,none⟩=some (I O r.env)∧W.cell? ⟨g,8,none⟩=some (I O r.unit)∧W.cell? ⟨g,9,none⟩=some (I O r.width)∧W.cell? ⟨g0,0,none⟩=some (.slice r0.sp r0.sn r0.sc)∧W.cell? ⟨g0,1,none⟩=some (.slice r0.tp r0.tn r0.tc)∧W.cell? ⟨g0,2,none⟩=some (I O r0.due)∧W.cell? ⟨g0,3,none⟩=some (I O r0.last)∧W.cell? ⟨g0,4,none⟩=some (I O r0.mille)∧W.cell? ⟨g0,5,none⟩=some (.slice r0.gp r0.gn r0.gc)∧W.cell? ⟨g0,6,none⟩=some (I O r0.cap)∧W.cell? ⟨g0,7,none⟩=some (I O r0.env)∧W.cell? ⟨g0,8,none⟩=some (I O r0.unit)∧W.cell? ⟨g0,9,none⟩=some (I O r0.width) from fun W q h=>by
  have k:=h.vb;have m:=B0.below h.low;simp only[yCells]at k
  exact⟨k.cell 0,k.cell 1,k.cell 2,k.cell 3,k.cell 4,k.cell 5,k.cell 6,k.cell 7,k.cell 8,k.cell 9,m.cell 0,m.cell 1,m.cell 2,m.cell 3,m.cell 4,m.cell 5,m.cell 6,m.cell 7,m.cell 8,m.cell 9⟩)
 have K5:=KS.out _ _ O5.out;refine wp_region_held_drew (S:=fun w' => w'.cell? ⟨g,0,none⟩=some (.slice r.sp r.sn r.sc)∧w'.cell? ⟨g,1,none⟩=some (.slice r.tp r.tn r.tc)∧w'.cell? ⟨g,2,none⟩=some (I O r.due)∧w'.cell? ⟨g,3,none⟩=some (I O r.last)∧w'.cell? ⟨g,4,none⟩=some (I O r.mille)∧w'.cell? ⟨g,5,none⟩=some (.slice r.gp r.gn r.gc)∧w'.cell? ⟨g,6,none⟩=some (I O r.cap)∧w'.cell? ⟨g,7,none⟩=some (I O r.env)∧w'.cell? ⟨g,8,none⟩=some (I O r.unit)∧w'.cell? ⟨g,9,none⟩=some (I O r.width)∧w'.cell? ⟨g0,0,none⟩=some (.slice r0.sp r0.sn r0.sc)∧w'.cell? ⟨g0,1,none⟩=some (.slice r0.tp r0.tn r0.tc)∧w'.cell? ⟨g0,2,none⟩=some (I O r0.due)∧w'.cell? ⟨g0,3,none⟩=some (I O r0.last)∧w'.cell? ⟨g0,4,none⟩=some (I O r0.mille)∧w'.cell? ⟨g0,5,none⟩=some (.slice r0.gp r0.gn r0.gc)∧w'.cell? ⟨g0,6,none⟩=some (I O r0.cap)∧w'.cell? ⟨g0,7,none⟩=some (I O r0.env)∧w'.cell? ⟨g0,8,none⟩=some (I O r0.unit)∧w'.cell? ⟨g0,9,none⟩=some (I O r0.width)) (by kernel_rfl) K5 (fun hHeld=>?_);generalize w4.drew=w5 at *;refine tkH 0 46 hHeld ?_;refine tkH 1 47 hHeld ?_;refine tkH 2 48 hHeld ?_;refine tkH 4 50 hHeld ?_;refine tkH 7 53 hHeld ?_;clear K5;refine rdA 3 49 (fun K hK=>?_);go_simp;(with_reducible refine cmo (SP.out _ _ _ O5.out.tape) ?_);rintro e w7 ⟨d1,r1,Y1,q7,rfl,hy1,hp6⟩;have O7:=mh (O5.next hp6.tape hp6.but);have F7:=mh (F5.but hp6.but);have V1:=mh (show YV (fun b=>b≠t) w7 d1 r1 Y1 from hy1.change mle fun b k _=>⟨rfl,by have:=O5.tape.lt;unfold jP at k;omega⟩);have H7:=KS.out _ _ O7.out;clear hy1 hp6;simp only[yCells]
 go_wp2_with fail
 refine hK.out _ _ H7 (fun _=>?_)
 clear hK K
 (try dsimp only[Act.put])
 try simp only[mnA,mnB,mnC]
 refine rdA 5 51 (fun K hK=>?_)
 go_simp
 have hal:=(brf w7.heap.size w7).alloc mle (.cells #[.slice r.sp r.sn r.sc,.slice r.tp r.tn r.tc,I O r.due,I O r.last,I O r.mille,.slice r.gp r.gn r.gc,I O r.cap,I O r.env,I O r.unit,I O r.width,.slice r1.sp r1.sn r1.sc,.slice r1.tp r1.tn r1.tc,I O r1.due,I O r1.last,I O r1.mille,.slice r1.gp r1.gn r1.gc,I O r1.cap,I O r1.env,I O r1.unit,I O r1.width,.slice r0.sp r0.sn r0.sc,.slice r0.tp r0.tn r0.tc,I O r0.due,I O r0.last,I O r0.mille,.slice r0.gp r0.gn r0.gc,I O r0.cap,I O r0.env,I O r0.unit,I O r0.width] 29);have RW:=mh (show qD SYl (w7.alloc (.cells #[.slice r.sp r.sn r.sc,.slice r.tp r.tn r.tc,I O r.due,I O r.last,I O r.mille,.slice r.gp r.gn r.gc,I O r.cap,I O r.env,I O r.unit,I O r.width,.slice r1.sp r1.sn r1.sc,.slice r1.tp r1.tn r1.tc,I O r1.due,I O r1.last,I O r1.mille,.slice r1.gp r1.gn r1.gc,I O r1.cap,I O r1.env,I O r1.unit,I O r1.width,.slice r0.sp r0.sn r0.sc,.slice r0.tp r0.tn r0.tc,I O r0.due,I O r0.last,I O r0.mille,.slice r0.gp r0.gn r0.gc,I O r0.cap,I O r0.env,I O r0.unit,I O r0.width] 29)) (some ⟨w7.heap.size,0,none⟩) [r,r1,r0] from qD.lit (S:=SYl) w7 29 [r,r1,r0] (by show 3≤_;unfold maxLen;omega))
 have A8:=mh (show CkA v (w7.alloc (.cells #[.slice r.sp r.sn r.sc,.slice r.tp r.tn r.tc,I O r.due,I O r.last,I O r.mille,.slice r.gp r.gn r.gc,I O r.cap,I O r.env,I O r.unit,I O r.width,.slice r1.sp r1.sn r1.sc,.slice r1.tp r1.tn r1.tc,I O r1.due,I O r1.last,I O r1.mille,.slice r1.gp r1.gn r1.gc,I O r1.cap,I O r1.env,I O r1.unit,I O r1.width,.slice r0.sp r0.sn r0.sc,.slice r0.tp r0.tn r0.tc,I O r0.due,I O r0.last,I O r0.mille,.slice r0.gp r0.gn r0.gc,I O r0.cap,I O r0.env,I O r0.unit,I O r0.width] 29)) t l q7 w7.heap.size [r,r1,r0] Y pF F 4 from by
  have O8:=O7.below hal;refine⟨O8.tape,O8.low,O8.wt,RW.out,O7.tape.lt,fun y hy=>?_,F7.below hal⟩;simp only[List.mem_cons,List.not_mem_nil,or_false]at hy
  rcases hy with rfl|rfl|rfl
  ·exact⟨d,Y,O8.yv.change mle fun b k _=>⟨rfl,by omega⟩⟩
  ·exact⟨d1,Y1,V1.below hal⟩
  ·exact⟨d0,Y0,RY0.raw O8.low O8.wt⟩)
 have H8:=KS.out _ _ (O7.below hal);clear hal RW;refine hK.out _ _ H8 (fun _=>?_);clear hK K
 (try dsimp only[Act.put])
 try simp only[mnA,mnB,mnC]
 refine tkH 6 52 H8 ?_
 refine wpAnyH_done (by kernel_rfl) ?_ _
 have OKY:=mh (And.intro O7.ok.ne O7.len);clear hHeld H7 H8 O4 O5 O7 F4 F5 F7 V1 KS SP B0;obtain⟨gA,egA⟩:∃g,w7.heap.size=g:=⟨_,rfl⟩;rw[egA]at A8 ⊢;clear egA;generalize w7.alloc (.cells #[.slice r.sp r.sn r.sc,.slice r.tp r.tn r.tc,I O r.due,I O r.last,I O r.mille,.slice r.gp r.gn r.gc,I O r.cap,I O r.env,I O r.unit,I O r.width,.slice r1.sp r1.sn r1.sc,.slice r1.tp r1.tn r1.tc,I O r1.due,I O r1.last,I O r1.mille,.slice r1.gp r1.gn r1.gc,I O r1.cap,I O r1.env,I O r1.unit,I O r1.width,.slice r0.sp r0.sn r0.sc,.slice r0.tp r0.tn r0.tc,I O r0.due,I O r0.last,I O r0.mille,.slice r0.gp r0.gn r0.gc,I O r0.cap,I O r0.env,I O r0.unit,I O r0.width] 29)=w8 at *
 go_wp2_with fail
 try dsimp only[Act.put]
 try simp only[mnA,mnB,mnC]
 go_loopw [53] (fun iv W=>∃(k q:Nat),k≤3∧iv=I O k∧CkA v W t l q gA [r,r1,r0] Y pF F 4) (fun iv _=>3 - (intOf iv).toNat)
 case atStart=>exact⟨0,_,by omega,rfl,A8.out⟩
 case round =>
  clear A8;obtain⟨wo,rfl⟩:∃wo:World,wo=wr:=⟨_,rfl⟩;obtain⟨k,q,hk,rfl,hA⟩:=hrel;have A0:=mh hA;have hk0:(0:Int)≤(k:Int):=inn _;clear hA
  by_cases hk4:k<3
  rotate_left
  ·obtain rfl:k=3:=by omega
   go_wp2_with (go_at_call 6;(with_reducible refine cmo (uH _) ?_);rintro e wz ⟨rfl,hb⟩;have HB:=mh hb;clear hb)
   go_ret
   exact⟨rfl,by rw[EG0.out];exact HAL.trans ((A0.low.trans (HB.mono A0.low.size)).mono (by have:=GV.out;omega))⟩
  have hk5:(k:Int)<3:=by omega
  obtain⟨dk,Yk,hyv,hgA,m0,m1,m2,m3,m4,m5,m6,m7,m8,m9⟩:=A0.at (k:=k) (by show k<3;exact hk4);obtain⟨rk,erk⟩:∃rk, [r,r1,r0][k]'(by show k<3;exact hk4)=rk:=⟨_,rfl⟩;rw[erk]at hyv m0 m1 m2 m3 m4 m5 m6 m7 m8 m9;have hal:=(brf wo.heap.size wo).alloc mle (.cells #[.slice rk.sp rk.sn rk.sc,.slice rk.tp rk.tn rk.tc,I O rk.due,I O rk.last,I O rk.mille,.slice rk.gp rk.gn rk.gc,I O rk.cap,I O rk.env,I O rk.unit,I O rk.width] 29);have A4:=mh (A0.below hal);have BK4:=mh (Blk.new wo #[.slice rk.sp rk.sn rk.sc,.slice rk.tp rk.tn rk.tc,I O rk.due,I O rk.last,I O rk.mille,.slice rk.gp rk.gn rk.gc,I O rk.cap,I O rk.env,I O rk.unit,I O rk.width] 29);have VK4:=mh (hyv.below hal);clear hyv erk hal
  go_upto_region 9 with fail
  obtain⟨gB,egB⟩:∃g,wo.heap.size=g:=⟨_,rfl⟩;rw[egB]at BK4 ⊢;have GBT:=mh (show t<gB from by have h1:=A0.tape.lt;omega);clear egB m0 m1 m2 m3 m4 m5 m6 m7 m8 m9;generalize wo.alloc (.cells #[.slice rk.sp rk.sn rk.sc,.slice rk.tp rk.tn rk.tc,I O rk.due,I O rk.last,I O rk.mille,.slice rk.gp rk.gn rk.gc,I O rk.cap,I O rk.env,I O rk.unit,I O rk.width] 29)=wa at *;have OD:=mh (fun (W:World) (q:Nat) (y:Int) (h:CkA v W t l q gA [r,r1,r0] Y pF F 4) (hy : -9223372036854775808≤y)=>xEA t l q pF F F.length capF Y y W h.tape h.fm.at_ rfl h.fm.fm (by have:=h.fm.len;omega) (Nat.pos_of_ne_zero OKY.1) OKY.2 hy);unfold tP at OD;have MD:=mh (fun (W:World)=>yFA x 40 W X0.out (by omega));obtain⟨xm,exm⟩:∃y,mod x 40=y:=⟨_,rfl⟩;have hxm:0≤xm∧xm<40:=by rw[← exm];exact gMA x (by omega)
  rw[exm]at MD;have hxw:IntKind.i64.wrap (xm - 2)=xm - 2:=by rw[IntKind.wrap_i64];omega
  clear exm
  go_wp2_with (first
   | (go_at_call 11;(with_reducible refine cmo (MD.out _) ?_);rintro e wm ⟨rfl,rfl⟩)
   | (go_at_call 14;(with_reducible refine cmo (OD.out _ _ _ A4.out (by have:=hxm.1;omega)) ?_);rintro e we ⟨p5,n5,c5,F5,q5,rfl,en5,lc5,hf5,hs5,tp5⟩;have A5:=mh (A4.next tp5.tape tp5.but);have BK5:=mh (BK4.but tp5.but (by have:=A4.tg;have:=GBT.out;omega));have VK5:=mh (VK4.nt tp5.but);have FS5:=mh (And.intro en5 (And.intro lc5 (And.intro (show yF (fun b=>b≠t) we p5 F5 from hf5.change mle fun b k _=>⟨rfl,by have:=A4.tape.lt;unfold jP at k;omega⟩) hs5)));clear en5 lc5 hf5 hs5 tp5)
   | fail)
  have hal:=(brf we.heap.size we).alloc mle (.cells #[.slice pF F.length capF,.slice p5 n5 c5] 30);have A7:=mh (A5.below hal)
  have B7:=mh (show CkB (we.alloc (.cells #[.slice pF F.length capF,.slice p5 n5 c5] 30)) t gB we.heap.size rk dk Yk [⟨pF,F.length,capF⟩,⟨p5,n5,c5⟩] from by
   refine⟨BK5.below hal,VK5.below hal,qD.lit (S:=SSl) we 30 [⟨pF,F.length,capF⟩,⟨p5,n5,c5⟩] (by show 2≤_;unfold maxLen;omega),fun s hs=>?_⟩
   simp only[List.mem_cons,List.not_mem_nil,or_false]at hs
   rcases hs with rfl|rfl
   ·exact⟨F,rfl,CF.out,A5.fm.nt.below hal,A5.fm.lo⟩
   ·exact⟨F5,FS5.1,FS5.2.1,FS5.2.2.1.below hal,FS5.2.2.2⟩)
  obtain⟨gS,egS⟩:∃g,we.heap.size=g:=⟨_,rfl⟩;rw[egS]at B7 ⊢;clear egS hal;generalize we.alloc (.cells #[.slice pF F.length capF,.slice p5 n5 c5] 30)=wg at *;clear A4 A5 BK4 BK5 VK4 VK5 FS5 OD MD hxw hxm
  try dsimp only[Act.put]
  try simp only[mnA,mnB,mnC]
  go_loopw [66] (fun iv W=>∃(j:Nat),j≤2∧iv=I O j∧CkA v W t l q5 gA [r,r1,r0] Y pF F 4∧CkB W t gB gS rk dk Yk [⟨pF,F.length,capF⟩,⟨p5,n5,c5⟩]) (fun iv _=>2 - (intOf iv).toNat)
  case atStart=>exact⟨0,by omega,rfl,A7.out,B7.out⟩
  case round =>
   clear A7 B7;obtain⟨wi,rfl⟩:∃wi:World,wi=wr:=⟨_,rfl⟩;obtain⟨j,hj,rfl,hA,hB⟩:=hrel;have A8:=mh hA;have B8:=mh hB;have hj0:(0:Int)≤(j:Int):=inn _;clear hA hB
   by_cases hj4:j<2
   rotate_left
   ·obtain rfl:j=2:=by omega
    clear hj4 hj hj0
    go_upto_region 17 with fail
    apply cut6 (P:=fun p6 w6=>CkA v w6 t l q5 gA [r,r1,r0] Y pF F 4∧CkD w6 t gB rk dk Yk p6 (F ++ [f0]))
    case main =>
     intro TAIL;obtain⟨⟨RR,hrl,hrx,hrv⟩,hrq⟩:=A8.fm.nt;have LEN:=mh hrl;have LEN5:=mh A8.fm.len;have RX:=mh hrx;have RV:=mh hrv;have RG:=mh (RF0.raw A8.low A8.wt);have TLT:=mh A8.tape.lt;have BX0:=mh ((brf wi.heap.size wi).drew);have CW:=mh (C0.below A8.low);have KS:=mh (show ∀W', Below wi.heap.size wi W' → W'.cell? ⟨(g0+1),0,none⟩=some (I O s0.farm)∧W'.cell? ⟨(g0+1),1,none⟩=some (I O s0.day)∧W'.cell? ⟨(g0+1),2,none⟩=some (.slice s0.lp s0.ln s0.lc) from fun W' hb=>by have k:=CW.below hb;exact⟨k.cell 0,k.cell 1,k.cell 2⟩);clear hrl hrx hrv hrq;refine wp_region_held_drew (S:=fun w' => w'.cell? ⟨(g0+1),0,none⟩=some (I O s0.farm)∧w'.cell? ⟨(g0+1),1,none⟩=some (I O s0.day)∧w'.cell? ⟨(g0+1),2,none⟩=some (.slice s0.lp s0.ln s0.lc)) (by kernel_rfl) (KS.out _ BX0.out) (fun hHeld=>?_);generalize wi.drew=wz at *;refine tkH 1 107 hHeld ?_;refine tkH 3 109 hHeld ?_;refine tkH 7 113 hHeld ?_;refine wpAnyH_ready (rs := [0,4]) (by kernel_rfl) (by simp) ?_;refine AllReadyH.cons (o:=⟨some 106,_,_,_,_,_⟩) rfl (fun K hK=>?_) ?_
     ·go_simp
      have hal:=(brf wz.heap.size wz).alloc mle (.cells #[] 47);have BX1:=mh (BX0.trans (hal.mono BX0.size));have OV1:=mh ((qX.mk00 (S:=SF) wz 47).mono BX0.size);have GE:=mh (show wz.heap.size<(wz.alloc (.cells #[] 47)).heap.size from by simp);clear hal;generalize wz.heap.size=ge at *;generalize wz.alloc (.cells #[] 47)=x0_ at *;have KN:=KS.out _ BX1.out;refine hK.out _ _ KN (fun _=>?_);clear hK K
      (try dsimp only[Act.put])
      try simp only[mnA,mnB,mnC]
      refine wpAnyH_ready (rs := [2,4]) (by kernel_rfl) (by simp) ?_
      refine AllReadyH.cons (o:=⟨some 108,_,_,_,_,_⟩) rfl (fun K hK=>?_) ?_
      ·refine qX.stepAny kU (by rfl) (.tmp 106) (.tmp 107) (by rfl) wi.heap.size (.slice (some ⟨ge,0,none⟩) 0 0) [] RR pF capF F.length LEN.out OV1.out (RX.below BX1.out) (by rfl) (by rfl) BX1.size (by have h2:=LEN5.out;simp only[List.length_nil];omega) (by decide) ?_
       intro v5 wx5 hO5 hap5;rw[List.nil_append]at hO5;have OV2:=mh hO5;have BX2:=mh (BX1.trans hap5.below);have KN:=KS.out _ BX2.out;clear hO5 hap5;refine hK.out _ _ KN (fun _=>?_);clear hK K
       (try dsimp only[Act.put])
       try simp only[mnA,mnB,mnC]
       refine rdA 4 110 (fun K hK=>?_)
       go_simp
       have hal:=(brf wx5.heap.size wx5).alloc mle (.cells #[I O s0.farm,I O s0.day,.slice s0.lp s0.ln s0.lc] 47);have BX3:=mh (BX2.trans (hal.mono BX2.size));have LX3:=mh (show qD SF (wx5.alloc (.cells #[I O s0.farm,I O s0.day,.slice s0.lp s0.ln s0.lc] 47)) (some ⟨wx5.heap.size,0,none⟩) [s0] from qD.lit (S:=SF) wx5 47 [s0] (by show 1≤_;unfold maxLen;omega));have OV3:=mh (OV2.below hal);have GLT3:=mh (show wx5.heap.size<(wx5.alloc (.cells #[I O s0.farm,I O s0.day,.slice s0.lp s0.ln s0.lc] 47)).heap.size∧True∧wi.heap.size≤wx5.heap.size from⟨by simp,trivial,BX2.size⟩);clear hal;generalize wx5.heap.size=gl at *;generalize wx5.alloc (.cells #[I O s0.farm,I O s0.day,.slice s0.lp s0.ln s0.lc] 47)=x024_ at *;have KN:=KS.out _ BX3.out;refine hK.out _ _ KN (fun _=>?_);clear hK K
       (try dsimp only[Act.put])
       try simp only[mnA,mnB,mnC]
       refine rdA 5 111 (fun K hK=>?_)
       refine qX.stepAp kU (by rfl) (.tmp 108) (.tmp 110) (by rfl) wi.heap.size v5 RR [s0] (some ⟨gl,0,none⟩) 1 1 rfl OV3.out LX3.out (fun h=>by cases h) (by rfl) (by rfl) BX3.size (by have h1:=LEN.out;have h2:=LEN5.out;omega) (by decide) ?_
       intro v6 w6 hO6 hap6;have HB6:=mh (BX3.trans hap6.below);have KN2:=KS.out _ HB6.out;obtain⟨p6,c6,rfl, -⟩:=hO6.cut rfl;have RES:=mh (rZ LEN.out RV.out RG.out HB6.out TLT.out hO6);obtain⟨n6,en6⟩:∃n6,(RR ++ [s0]).length=n6:=⟨_,rfl⟩;rw[en6]at RES ⊢;obtain rfl:=RES.1;clear hO6 hap6 en6;refine hK.out _ _ KN2 (fun _=>?_);clear hK K
       (try dsimp only[Act.put])
       try simp only[mnA,mnB,mnC]
       refine tkH 6 112 KN2 ?_
       refine wpAnyH_done (by kernel_rfl) ?_ _
       have A9:=mh (A8.below HB6.out);have D9:=mh (show CkD w6 t gB rk dk Yk p6 (F ++ [f0]) from⟨B8.bl.below HB6.out,B8.yv.below HB6.out,RES.2.2⟩);exact TAIL.out ge gl v5 p6 c6 w6 ⟨A9.out,D9.out⟩
      refine AllReadyH.cons (o:=⟨some 110,_,_,_,_,_⟩) rfl (fun K hK=>?_) AllReadyH.nil
      go_simp
      have hal:=(brf x0_.heap.size x0_).alloc mle (.cells #[I O s0.farm,I O s0.day,.slice s0.lp s0.ln s0.lc] 47);have BX2:=mh (BX1.trans (hal.mono BX1.size));have LX2:=mh (show qD SF (x0_.alloc (.cells #[I O s0.farm,I O s0.day,.slice s0.lp s0.ln s0.lc] 47)) (some ⟨x0_.heap.size,0,none⟩) [s0] from qD.lit (S:=SF) x0_ 47 [s0] (by show 1≤_;unfold maxLen;omega));have OV2:=mh (OV1.below hal);have GLT2:=mh (show x0_.heap.size<(x0_.alloc (.cells #[I O s0.farm,I O s0.day,.slice s0.lp s0.ln s0.lc] 47)).heap.size∧x0_.heap.size≠ge∧wi.heap.size≤x0_.heap.size from⟨by simp,by have:=GE.out;omega,BX1.size⟩);clear hal;generalize x0_.heap.size=gl at *;generalize x0_.alloc (.cells #[I O s0.farm,I O s0.day,.slice s0.lp s0.ln s0.lc] 47)=x04_ at *;have KN:=KS.out _ BX2.out;refine hK.out _ _ KN (fun _=>?_);clear hK K
      (try dsimp only[Act.put])
      try simp only[mnA,mnB,mnC]
      refine rdA 2 108 (fun K hK=>?_)
      refine qX.stepAny kU (by rfl) (.tmp 106) (.tmp 107) (by rfl) wi.heap.size (.slice (some ⟨ge,0,none⟩) 0 0) [] RR pF capF F.length LEN.out OV2.out (RX.below BX2.out) (by rfl) (by rfl) BX2.size (by have h2:=LEN5.out;simp only[List.length_nil];omega) (by decide) ?_
      intro v5 wx5 hO5 hap5;rw[List.nil_append]at hO5;have OV3:=mh hO5;have BX3:=mh (BX2.trans hap5.below);have LX3:=mh (LX2.blocks hap5.size fun a ea => .inr (by cases ea;exact hap5.far gl GLT2.1 (fun e=>GLT2.2.1 (by cases e;rfl))));have GLT3:=mh (show gl<wx5.heap.size∧True∧wi.heap.size≤gl from⟨nll GLT2.1 hap5.size,trivial,GLT2.2.2⟩);have KN:=KS.out _ BX3.out;clear hO5 hap5;refine hK.out _ _ KN (fun _=>?_);clear hK K
      (try dsimp only[Act.put])
      try simp only[mnA,mnB,mnC]
      refine rdA 5 111 (fun K hK=>?_)
      refine qX.stepAp kU (by rfl) (.tmp 108) (.tmp 110) (by rfl) wi.heap.size v5 RR [s0] (some ⟨gl,0,none⟩) 1 1 rfl OV3.out LX3.out (fun h=>by cases h) (by rfl) (by rfl) BX3.size (by have h1:=LEN.out;have h2:=LEN5.out;omega) (by decide) ?_
      intro v6 w6 hO6 hap6;have HB6:=mh (BX3.trans hap6.below);have KN2:=KS.out _ HB6.out;obtain⟨p6,c6,rfl, -⟩:=hO6.cut rfl;have RES:=mh (rZ LEN.out RV.out RG.out HB6.out TLT.out hO6);obtain⟨n6,en6⟩:∃n6,(RR ++ [s0]).length=n6:=⟨_,rfl⟩;rw[en6]at RES ⊢;obtain rfl:=RES.1;clear hO6 hap6 en6;refine hK.out _ _ KN2 (fun _=>?_);clear hK K
      (try dsimp only[Act.put])
      try simp only[mnA,mnB,mnC]
      refine tkH 6 112 KN2 ?_
      refine wpAnyH_done (by kernel_rfl) ?_ _
      have A9:=mh (A8.below HB6.out);have D9:=mh (show CkD w6 t gB rk dk Yk p6 (F ++ [f0]) from⟨B8.bl.below HB6.out,B8.yv.below HB6.out,RES.2.2⟩);exact TAIL.out ge gl v5 p6 c6 w6 ⟨A9.out,D9.out⟩
     refine AllReadyH.cons (o:=⟨some 110,_,_,_,_,_⟩) rfl (fun K hK=>?_) AllReadyH.nil
     go_simp
     have hal:=(brf wz.heap.size wz).alloc mle (.cells #[I O s0.farm,I O s0.day,.slice s0.lp s0.ln s0.lc] 47);have BX1:=mh (BX0.trans (hal.mono BX0.size));have LX1:=mh (show qD SF (wz.alloc (.cells #[I O s0.farm,I O s0.day,.slice s0.lp s0.ln s0.lc] 47)) (some ⟨wz.heap.size,0,none⟩) [s0] from qD.lit (S:=SF) wz 47 [s0] (by show 1≤_;unfold maxLen;omega));have GLT1:=mh (show wz.heap.size<(wz.alloc (.cells #[I O s0.farm,I O s0.day,.slice s0.lp s0.ln s0.lc] 47)).heap.size∧True∧wi.heap.size≤wz.heap.size from⟨by simp,trivial,BX0.size⟩);clear hal;generalize wz.heap.size=gl at *;generalize wz.alloc (.cells #[I O s0.farm,I O s0.day,.slice s0.lp s0.ln s0.lc] 47)=x4_ at *;have KN:=KS.out _ BX1.out;refine hK.out _ _ KN (fun _=>?_);clear hK K
     (try dsimp only[Act.put])
     try simp only[mnA,mnB,mnC]
     refine rdA 0 106 (fun K hK=>?_)
     go_simp
     have hal:=(brf x4_.heap.size x4_).alloc mle (.cells #[] 47);have BX2:=mh (BX1.trans (hal.mono BX1.size));have OV2:=mh ((qX.mk00 (S:=SF) x4_ 47).mono BX1.size);have LX2:=mh (LX1.below hal);have GLT2:=mh (show gl<(x4_.alloc (.cells #[] 47)).heap.size∧gl≠x4_.heap.size∧wi.heap.size≤gl from by have h1:=GLT1.out;have h2:=hal.size;omega);have GE:=mh (show x4_.heap.size<(x4_.alloc (.cells #[] 47)).heap.size from by simp);clear hal;generalize x4_.heap.size=ge at *;generalize x4_.alloc (.cells #[] 47)=x40_ at *;have KN:=KS.out _ BX2.out;refine hK.out _ _ KN (fun _=>?_);clear hK K
     (try dsimp only[Act.put])
     try simp only[mnA,mnB,mnC]
     refine rdA 2 108 (fun K hK=>?_)
     refine qX.stepAny kU (by rfl) (.tmp 106) (.tmp 107) (by rfl) wi.heap.size (.slice (some ⟨ge,0,none⟩) 0 0) [] RR pF capF F.length LEN.out OV2.out (RX.below BX2.out) (by rfl) (by rfl) BX2.size (by have h2:=LEN5.out;simp only[List.length_nil];omega) (by decide) ?_
     intro v5 wx5 hO5 hap5;rw[List.nil_append]at hO5;have OV3:=mh hO5;have BX3:=mh (BX2.trans hap5.below);have LX3:=mh (LX2.blocks hap5.size fun a ea => .inr (by cases ea;exact hap5.far gl GLT2.1 (fun e=>GLT2.2.1 (by cases e;rfl))));have GLT3:=mh (show gl<wx5.heap.size∧True∧wi.heap.size≤gl from⟨nll GLT2.1 hap5.size,trivial,GLT2.2.2⟩);have KN:=KS.out _ BX3.out;clear hO5 hap5;refine hK.out _ _ KN (fun _=>?_);clear hK K
     (try dsimp only[Act.put])
     try simp only[mnA,mnB,mnC]
     refine rdA 5 111 (fun K hK=>?_)
     refine qX.stepAp kU (by rfl) (.tmp 108) (.tmp 110) (by rfl) wi.heap.size v5 RR [s0] (some ⟨gl,0,none⟩) 1 1 rfl OV3.out LX3.out (fun h=>by cases h) (by rfl) (by rfl) BX3.size (by have h1:=LEN.out;have h2:=LEN5.out;omega) (by decide) ?_
     intro v6 w6 hO6 hap6;have HB6:=mh (BX3.trans hap6.below);have KN2:=KS.out _ HB6.out;obtain⟨p6,c6,rfl, -⟩:=hO6.cut rfl;have RES:=mh (rZ LEN.out RV.out RG.out HB6.out TLT.out hO6);obtain⟨n6,en6⟩:∃n6,(RR ++ [s0]).length=n6:=⟨_,rfl⟩;rw[en6]at RES ⊢;obtain rfl:=RES.1;clear hO6 hap6 en6;refine hK.out _ _ KN2 (fun _=>?_);clear hK K
     (try dsimp only[Act.put])
     try simp only[mnA,mnB,mnC]
     refine tkH 6 112 KN2 ?_
     refine wpAnyH_done (by kernel_rfl) ?_ _
     have A9:=mh (A8.below HB6.out);have D9:=mh (show CkD w6 t gB rk dk Yk p6 (F ++ [f0]) from⟨B8.bl.below HB6.out,B8.yv.below HB6.out,RES.2.2⟩);exact TAIL.out ge gl v5 p6 c6 w6 ⟨A9.out,D9.out⟩
    case tail =>
     intro ge gl v5 p6 c6 w6 hT;have A9:=mh hT.1;have D9:=mh hT.2;clear hT
     go_wp2_with fail
     try dsimp only[Act.put]
     try simp only[mnA,mnB,mnC]
     go_loopw [113] (fun iv W=>∃(i:Nat),i≤F.length+1∧iv=I O i∧CkA v W t l q5 gA [r,r1,r0] Y pF F 4∧CkD W t gB rk dk Yk p6 (F ++ [f0])) (fun iv _=>F.length+1 - (intOf iv).toNat)
     case atStart=>exact⟨0,by omega,rfl,A9.out,D9.out⟩
     case round =>
      clear A9 D9;obtain⟨wq,rfl⟩:∃wq:World,wq=wr:=⟨_,rfl⟩;obtain⟨i,hi,rfl,hA,hD⟩:=hrel;have A8:=mh hA;have D8:=mh hD;have hi0:(0:Int)≤(i:Int):=inn _;clear hA hD
      by_cases hi4:i<F.length+1
      rotate_left
      ·obtain rfl:i=F.length+1:=by omega
       go_wp2_with fail
       go_roundw
       case rel=>exact⟨k+1,q5,by omega,by go_num,A8.out⟩
       case measure=>simp[intOf];omega
      have hFl:=A8.fm.len;have hi5:(i:Int)<(F.length:Int)+1:=by omega
      have hi6:(i:Int)<((F.length+1:Nat):Int):=by omega
      have HI:=mh (show i<(F ++ [f0]).length from by rw[lap];exact hi4);obtain⟨b,off,rx,rfl,hbl,⟨e0,e1,e2⟩,hfv⟩:=D8.fs.at HI.out;obtain⟨fx,efx⟩:∃fx,(F ++ [f0])[i]'HI.out=fx:=⟨_,rfl⟩;rw[efx]at hfv;have SJ:=mh (show ∀y∈fx.lines, -9223372036854775808≤y.sch from by rw[← efx];exact(A8.fm.lo.snoc RS0.out) _ (List.getElem_mem HI.out));have hal:=(brf wq.heap.size wq).alloc mle (.cells #[I O rx.farm,I O rx.day,.slice rx.lp rx.ln rx.lc] 47);have A9:=mh (A8.below hal);have D9:=mh (D8.below hal);have V9:=mh (hfv.below hal);have X9:=mh (Blk.new wq #[I O rx.farm,I O rx.day,.slice rx.lp rx.ln rx.lc] 47);clear hfv efx hal
      go_upto_region 20 with fail
      obtain⟨gX,egX⟩:∃g,wq.heap.size=g:=⟨_,rfl⟩;rw[egX]at X9 ⊢;clear egX e0 e1 e2 hbl;generalize wq.alloc (.cells #[I O rx.farm,I O rx.day,.slice rx.lp rx.ln rx.lc] 47)=wy at *;have CK:=mh (fun (W:World) (h:YV (fun b=>b≠t) W dk rk Yk) (hf:FV (fun b=>b≠t) W rx fx)=>dR dk rk Yk rx fx W h hf);have RK:=mh (fun (W:World) (h:YV (fun b=>b≠t) W dk rk Yk) (hf:FV (fun b=>b≠t) W rx fx)=>wC dk rk Yk rx fx W h hf SJ.out);unfold FrG at CK RK;obtain⟨E,eE⟩:∃E,farmErr Yk fx=E:=⟨_,rfl⟩;obtain⟨A,eA⟩:∃A,jV Yk fx=A:=⟨_,rfl⟩;obtain⟨B,eB⟩:∃B,gD Yk fx=B:=⟨_,rfl⟩;rw[eE,eA,eB]at CK RK;simp only[yCells,fCells]at CK RK;clear eE eA eB;have YB:=D9.bl;simp only[yCells]at YB;have y0:=YB.cell 0;have y1:=YB.cell 1;have y2:=YB.cell 2;have y3:=YB.cell 3;have y4:=YB.cell 4;have y5:=YB.cell 5;have y6:=YB.cell 6;have y7:=YB.cell 7;have y8:=YB.cell 8;have y9:=YB.cell 9;have u0:=X9.cell 0;have u1:=X9.cell 1;have u2:=X9.cell 2;clear YB
      go_wp2_with fail
      (with_reducible refine cmo (CK.out _ D9.out.yv V9.out) ?_);rintro e wj ⟨va,vr,rfl,hoa,hor,hb⟩;obtain⟨pa,ca,rfl, -, -, -, -,hra⟩:=hoa.cut rfl;obtain⟨pr,cr,rfl, -, -, -, -,hrr⟩:=hor.cut rfl;have A10:=mh (A9.below hb);have D10:=mh (D9.below hb);have V10:=mh (V9.below hb);have X10:=mh (X9.below hb);have RA10:=mh hra;have RR10:=mh hrr;clear hoa hor hra hrr hb y0 y1 y2 y3 y4 y5 y6 y7 y8 y9 u0 u1 u2;have YB:=D10.bl;simp only[yCells]at YB;have y0:=YB.cell 0;have y1:=YB.cell 1;have y2:=YB.cell 2;have y3:=YB.cell 3;have y4:=YB.cell 4;have y5:=YB.cell 5;have y6:=YB.cell 6;have y7:=YB.cell 7;have y8:=YB.cell 8;have y9:=YB.cell 9;have u0:=X10.cell 0;have u1:=X10.cell 1;have u2:=X10.cell 2;clear YB
      go_wp2_with fail
      (with_reducible refine cmo (RK.out _ D10.out.yv V10.out) ?_);rintro e wk ⟨vb,vs,rfl,hob,hos,hb⟩;obtain⟨pb,cb,rfl, -, -, -, -,hrb⟩:=hob.cut rfl;obtain⟨ps,cs,rfl, -, -, -, -,hrs⟩:=hos.cut rfl;have A11:=mh (A10.below hb);have D11:=mh (D10.below hb);have AW:=mh (uX pa pb A ca cb wk (RA10.below hb) hrb);have RS:=mh (fun (W:World) (h1:qD SRn W pr B) (h2:qD SRn W ps B)=>bK pr ps B cr cs W h1 h2);have RR11:=mh (And.intro (RR10.below hb) hrs);clear hob hos hrb hrs hb y0 y1 y2 y3 y4 y5 y6 y7 y8 y9 u0 u1 u2 CK RK;unfold yC at AW RS
      go_wp2_with (first
       | (go_at_call 19;(with_reducible refine cmo AW.out ?_);rintro e w12 ⟨rfl,hb⟩;have A12:=mh (A11.below hb);have D12:=mh (D11.below hb);have RR12:=mh (And.intro (RR11.1.below hb) (RR11.2.below hb));clear hb)
       | (go_at_call 26;(with_reducible refine cmo (RS.out _ RR12.out.1 RR12.out.2) ?_);rintro e w13 ⟨rfl,hb⟩;have A13:=mh (A12.below hb);have D13:=mh (D12.below hb);clear hb)
       | fail)
      go_roundw
      case rel=>exact⟨i+1,by omega,by go_num,A13.out,D13.out⟩
      case measure=>simp[intOf];omega
   have hj5:(j:Int)<2:=by omega
   obtain⟨pj,Fj,cj,hcj,hfj,hsj,cell,hgS⟩:=B8.at (k:=j) (by show j<2;exact hj4);have FJ:=mh hfj;have SJ:=mh hsj;clear hfj hsj
   go_upto_region 12 with fail
   have CK:=mh (fun (W:World) (h:CkB W t gB gS rk dk Yk [⟨pF,F.length,capF⟩,⟨p5,n5,c5⟩]) (hf:yF (fun b=>b≠t) W pj Fj)=>fL dk rk Yk pj Fj cj W h.yv hf);have RK:=mh (fun (W:World) (h:CkB W t gB gS rk dk Yk [⟨pF,F.length,capF⟩,⟨p5,n5,c5⟩]) (hf:yF (fun b=>b≠t) W pj Fj)=>nY dk rk Yk pj Fj cj W h.yv hf SJ.out);have DU:=mh (assess_due Yk Fj);unfold AsG at CK RK;obtain⟨E,eE⟩:∃E,jR Yk Fj=E:=⟨_,rfl⟩;obtain⟨A,eA⟩:∃A,yP Yk Fj=A:=⟨_,rfl⟩;rw[eE,eA]at CK RK;rw[eA]at DU;simp only[yCells]at CK RK;clear eE eA cell;have YB:=B8.bl;simp only[yCells]at YB;have y0:=YB.cell 0;have y1:=YB.cell 1;have y2:=YB.cell 2;have y3:=YB.cell 3;have y4:=YB.cell 4;have y5:=YB.cell 5;have y6:=YB.cell 6;have y7:=YB.cell 7;have y8:=YB.cell 8;have y9:=YB.cell 9;clear YB
   go_wp2_with fail
   (with_reducible refine cmo (CK.out _ B8.out FJ.out) ?_);rintro e wj ⟨va,rfl,hoa,hb⟩;obtain⟨pa,ca,rfl, -, -, -, -,hra⟩:=hoa.cut rfl;have A9:=mh (A8.below hb);have B9:=mh (B8.below hb);have F9:=mh (FJ.below hb);have RA9:=mh hra;clear hoa hra hb y0 y1 y2 y3 y4 y5 y6 y7 y8 y9;have YB:=B9.bl;simp only[yCells]at YB;have y0:=YB.cell 0;have y1:=YB.cell 1;have y2:=YB.cell 2;have y3:=YB.cell 3;have y4:=YB.cell 4;have y5:=YB.cell 5;have y6:=YB.cell 6;have y7:=YB.cell 7;have y8:=YB.cell 8;have y9:=YB.cell 9;clear YB
   go_wp2_with fail
   (with_reducible refine cmo (RK.out _ B9.out F9.out) ?_);rintro e wk ⟨vb,rfl,hob,hb⟩;obtain⟨pb,cb,rfl, -, -, -, -,hrb⟩:=hob.cut rfl;have A10:=mh (A9.below hb);have B10:=mh (B9.below hb);have RA10:=mh (RA9.below hb);have RB10:=mh hrb;clear hob hrb hb y0 y1 y2 y3 y4 y5 y6 y7 y8 y9 CK RK;have AW:=mh (uX pa pb A ca cb wk RA10.out RB10.out);have TA:=mh (fun (W:World) (h:qD SA W pb A)=>nQ pb A cb W h DU.out);have TB:=mh (fun (W:World) (h:qD SA W pb A)=>uE pb A cb W h DU.out);have MA:=mh (fun (W:World) (h:qD SA W pb A)=>fR pb A cb 2 W h DU.out);have MB:=mh (fun (W:World) (h:qD SA W pb A)=>nK pb A cb 2 W h DU.out);unfold yC at AW;unfold kW at TA MA MB
   go_wp2_with (first
    | (go_at_call 19;(with_reducible refine cmo AW.out ?_);rintro e w11 ⟨rfl,hb⟩;have A11:=mh (A10.below hb);have B11:=mh (B10.below hb);have R11:=mh (RB10.below hb);clear hb)
    | (go_at_call 20;(with_reducible refine cmo (TA.out _ R11.out) ?_);rintro e w12 ⟨rfl,hb⟩;have A12:=mh (A11.below hb);have B12:=mh (B11.below hb);have R12:=mh (R11.below hb);clear hb)
    | (go_at_call 21;(with_reducible refine cmo (TB.out _ R12.out) ?_);rintro e w13 ⟨rfl,rfl⟩)
    | (go_at_call 22;(with_reducible refine cmo (MA.out _ R12.out) ?_);rintro e w14 ⟨rfl,hb⟩;have A14:=mh (A12.below hb);have B14:=mh (B12.below hb);have R14:=mh (R12.below hb);clear hb)
    | (go_at_call 23;(with_reducible refine cmo (MB.out _ R14.out) ?_);rintro e w15 ⟨rfl,hb⟩;have A15:=mh (A14.below hb);have B15:=mh (B14.below hb);clear hb)
    | fail)
   go_roundw
   case rel=>exact⟨j+1,by omega,by go_num,A15.out,B15.out⟩
   case measure=>simp[intOf];omega
open Go.Deep Go.ChangeShapes Go.WideShapes
section
variable {H:Type} {enc:TypeId × Value→H} {P:Program} {W:World} {base:Nat} {spare:Nat→Bool} {held:Bool}
theorem yT {cs:List Value}{i:Nat}{v:Value}(h:(cs.drop i).take 1 = [v]):cs[i]?=some v:=by
 have:=congrArg (fun l=>l[0]?) h
 simpa using this
end
end Go.Proofs.YtefcalgjnkigjaaGreat
namespace Go.Proofs.YtefcalgjnkigjaaGreat
open Go.RowKit Go.Deep Go.ChangeShapes Go.WideShapes
section
variable {H:Type} {enc:TypeId × Value→H} {P:Program} {W:World} {base:Nat} {spare:Nat→Bool} {held:Bool}
theorem wW {α β:Type} [Inhabited α] [Inhabited β] {S:jJ α} {Rel:α→β→Prop} {t e:TypeId} {fuel:Nat} {a:Option Addr} {len cap:Nat} {x:DataW H × List MemPlace}
  (ht:P.underlying t=some (.slice e)) (ce:P.cellsOf e=S.k)
  (hel:∀(n:Nat) (cs:List Value) (y:DataW H × List MemPlace),cs.length=S.k→DataW.trod enc P W base spare held n e cs=some y→∃r z,cs=S.cells r∧Rel r z)
  (h:DataW.trod enc P W base spare held fuel t [.slice a len cap]=some x):∃(R:List α) (L:List β),R.length=len∧L.length=len∧qD S W a R∧(∀k (h1:k<R.length) (h2:k<L.length),Rel R[k] L[k])∧len≤cap∧(a=none→cap=0):=by
 rcases open_slice ht h with⟨hcs,_⟩|⟨ad,l,c,m,n,D,Pl,hcs,_,hl,hm,hmm,_,hx⟩
 ·simp at hcs
  obtain⟨rfl,rfl,rfl⟩:=hcs;exact⟨[], [],rfl,rfl,qD.nil _ _,fun k h=>by simp at h,Nat.le_refl _,fun _=>rfl⟩
 simp at hcs
 obtain⟨rfl,rfl,rfl⟩:=hcs;have hlm:len≤m:=by rw[hmm];split<;>omega
 have each:∀i,i<len→∃d:α × β,(∀j u,(S.cells d.1)[j]?=some u→W.cell? (ad.add (i*S.k+j))=some u)∧Rel d.1 d.2:=by
  intro i hi;obtain⟨cs', h1,h2⟩:=hx i (by omega);rw[ce]at h1;obtain⟨_,hlen,hcell⟩:=World.cells?_some h1;obtain⟨r,z,e1,e2⟩:=hel n cs' _ hlen h2;refine⟨(r,z),fun j u hu=>?_,e2⟩;have hj:j<S.k:=by
   have:=(List.getElem?_eq_some_iff.1 hu).1;rw[S.len]at this;exact this
  have hc:=hcell j (by omega);rw[add_add]at hc;rw[hc,e1];exact hu
 obtain⟨f,hf⟩:=choose_lt each;refine⟨(List.range len).map fun i=>(f i).1,(List.range len).map fun i=>(f i).2,by simp,by simp,⟨by simp;omega,?_⟩,fun k h1 h2=>?_,by omega,fun h=>by cases h⟩
 rotate_left
 ·simp only[List.getElem_map,List.getElem_range]
  exact(hf k (by simpa using h1)).2
 by_cases hz:len=0
 ·subst hz;exact .inl rfl
 ·have hk:=S.pos
  have h0:=(hf 0 (by omega)).1 0 _ (List.getElem?_eq_getElem (by rw[S.len];exact hk));obtain⟨bb,off,spot⟩:=ad;have hspot:spot=none:=by simpa [Addr.add] using World.cell?_spot h0
  subst hspot;refine .inr ⟨bb,off,rfl,?_,fun q u hu=>?_⟩
  ·have:=World.block_lt_of_cell? W _ h0
   simpa [Addr.add] using this
  ·have hq:q<len*S.k:=by
    have:=(List.getElem?_eq_some_iff.1 hu).1;rw[jJ.flat_len]at this
    simpa using this
   have hi:q / S.k<len:=Nat.div_lt_of_lt_mul (by rw[Nat.mul_comm];exact hq);have hm:=Nat.mod_lt q hk;have e:q=q / S.k*S.k+q % S.k:=by rw[Nat.mul_comm];exact(Nat.div_add_mod q S.k).symm
   rw[e,S.flat_at _ (q / S.k) (by simpa using hi) (q % S.k) hm]at hu;simp only[List.getElem_map,List.getElem_range]at hu;have:=(hf (q / S.k) hi).1 (q % S.k) u hu;rw[Go.WideShapes.add_plain]at this;rw[e];exact this
theorem jH {cs:List Value}{fs:Array Field}{xs:List (DataW H × List MemPlace)}{n i o k:Nat}{f:Field}(hf:∀(i:Nat) (f:Field),fs[i]?=some f→DataW.trod enc P W base spare held n f.type ((cs.drop f.offset).take (P.cellsOf f.type))=xs[i]?)
  (hl:xs.length=fs.size) (h:fs[i]?=some f) (ho:f.offset=o) (hc:P.cellsOf f.type=k):∃x,DataW.trod enc P W base spare held n f.type ((cs.drop o).take k)=some x:=by
 have:=hf i f h;rw[ho,hc]at this;obtain⟨hi, -⟩:=Array.getElem?_eq_some_iff.1 h;rw[List.getElem?_eq_getElem (by omega)]at this;exact⟨_,this⟩
theorem kX {t e:TypeId}{fuel:Nat}{cs:List Value}{i:Nat}{x:DataW H × List MemPlace}(ht:P.underlying t=some (.slice e))(h:DataW.trod enc P W base spare held fuel t ((cs.drop i).take 1)=some x):∃a n c,(cs.drop i).take 1 = [.slice a n c]:=by
 rcases open_slice ht h with⟨hcs,_⟩|⟨ad,l,c,m,n,D,Pl,hcs,_⟩
 ·exact⟨_,_,_,hcs⟩
 ·exact⟨_,_,_,hcs⟩
theorem zF {t:TypeId}{fuel:Nat}{cs:List Value}{i:Nat}{x:DataW H × List MemPlace}(ht:P.underlying t=some (.int .i64))(h:DataW.trod enc P W base spare held fuel t ((cs.drop i).take 1)=some x):∃v,cs[i]?=some (I O v)∧(Lit.int .i64 v).wf=true:=by
 obtain⟨v,e, -,hv⟩:=DataW.trod_int ht h;exact⟨v,yT e,hv⟩
theorem yR {cs:List Value}{o k i:Nat}{v:Value}(h:((cs.drop o).take k)[i]?=some v):cs[o+i]?=some v:=by
 rw[List.getElem?_take]at h
 split at h
 ·rw[List.getElem?_drop]at h;exact h
 ·cases h
end
end Go.Proofs.YtefcalgjnkigjaaGreat
