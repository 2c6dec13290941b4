/- Packed. -/
import Derived.Test.YtefcalgjnkigjaaGreatL3
set_option maxRecDepth 100000
set_option maxHeartbeats 3000000
open Go.Value renaming int → I
open Go.IntKind renaming i64 → O
namespace Go.Proofs.YtefcalgjnkigjaaGreat
open Go.RowKit Te Sc
theorem tT (v:Int):bits BinOp.and IntKind.i64 v 1=v % 2:=by
 have h1:bits BinOp.and IntKind.i64 v 1=IntKind.i64.wrap (((BitVec.ofInt 64 v &&& BitVec.ofInt 64 1:BitVec 64).toNat:Nat):Int):=rfl;rw[h1,BitVec.toNat_and,BitVec.toNat_ofInt,BitVec.toNat_ofInt,show((1:Int) % ((2 ^ 64:Nat):Int)).toNat=1 from by decide,Nat.and_one_is_mod,IntKind.wrap_i64,show(((2 ^ 64:Nat):Int))=18446744073709551616 from by decide];omega
theorem bit_one (x n:Int):(bits BinOp.and IntKind.i64 (x / 2 ^ n.toNat) 1==1)=zH x n:=by
 rw[tT];unfold zH;rw[Bool.eq_iff_iff,beq_iff_eq,decide_eq_true_eq]
theorem vJ (x n:Int):(bits BinOp.and IntKind.i64 (x / 2 ^ n.toNat) 1==0) = !zH x n:=by
 rw[tT];unfold zH;rw[Bool.eq_iff_iff,beq_iff_eq,Bool.not_eq_true', decide_eq_false_iff_not];omega
def oneV (num least ex:Int) (nb:Bool) (ck:Int) (bb bit:Bool):Int :=
 if num<0∨15<num∨least<0∨268435456<least then 2 else if nb=false then 5 else if ck≠0 then ck else if bb=false∨ex<0∨65536≤ex∨bit=true then 3 else 0
theorem sA {num least ex:Int}{nb:Bool}{ck:Int}{bb bit:Bool}{v:Int}(h:oneV num least ex nb ck bb bit=v) :
  (num<0∨15<num∨least<0∨268435456<least→v=2)∧(¬(num<0∨15<num∨least<0∨268435456<least)→nb=false→v=5) ∧
  (¬(num<0∨15<num∨least<0∨268435456<least)→nb=true→ck≠0→v=ck) ∧
  (¬(num<0∨15<num∨least<0∨268435456<least)→nb=true→ck=0→(bb=false∨ex<0∨65536≤ex∨bit=true)→v=3) ∧
  (¬(num<0∨15<num∨least<0∨268435456<least)→nb=true→ck=0→¬(bb=false∨ex<0∨65536≤ex∨bit=true)→v=0):=by
 subst h;unfold oneV;refine⟨fun h=>by rw[if_pos h],fun h h2=>by rw[if_neg h,if_pos h2],fun h h2 h3=>by rw[if_neg h,if_neg (by rw[h2];decide),if_pos h3],fun h h2 h3 h4=>?_,fun h h2 h3 h4=>?_⟩
 ·rw[if_neg h,if_neg (by rw[h2];decide),if_neg (by omega),if_pos h4]
 ·rw[if_neg h,if_neg (by rw[h2];decide),if_neg (by omega),if_neg h4]
theorem tN {Q:Nat→Prop}(d:Nat)(r:RSx)(s:Sch)(w:World)(h:SV Q w d r s)(hz:r.nm.size≤9223372036854775807) :
  Calls Tryz.prog 84 #[.agg #[I O r.num,.string r.nm,I O r.t.op,I O r.t.num,I O r.t.more,.slice r.t.p r.t.n r.t.c,.slice r.bp r.bn r.bc,I O r.least,I O r.ex,.bool r.needs]] w (kW (zY s) w):=by
 have hA:Below w.heap.size w (w.alloc (.cells #[I O r.num,.string r.nm,I O r.t.op,I O r.t.num,I O r.t.more,.slice r.t.p r.t.n r.t.c,.slice r.bp r.bn r.bc,I O r.least,I O r.ex,.bool r.needs] 81)):=(brf _ _).alloc mle _;have NM:=mh (show ∀W,Calls Tryz.prog 120 #[.string r.nm] W (fun e w' => e = .returned (.bool (Wo.nameB s.nm.data.toList))∧W=w') from fun W=>h.nm▸gDA r.nm W hz);have CK:=mh (lG d r.t s.cond _ (h.below hA).t);have BK:=mh (fun (W:World) (hW:Below w.heap.size w W)=>show Calls Tryz.prog 122 #[.slice r.bp r.bn r.bc] W (yC (brB s.br) W) from tA r.bp s.br r.bn r.bc W h.bn (h.below hW).br);obtain⟨v,ev⟩:∃v,zY s=v:=⟨_,rfl⟩;have OC:=sA (show oneV r.num r.least r.ex (Wo.nameB s.nm.data.toList) (gH s.cond) (brB s.br) (zH r.ex r.num)=v from by rw[← ev,h.num,h.least,h.ex];rfl);rw[ev];obtain⟨nb,enb⟩:∃x,Wo.nameB s.nm.data.toList=x:=⟨_,rfl⟩;obtain⟨ck,eck⟩:∃x,gH s.cond=x:=⟨_,rfl⟩;obtain⟨bb,ebb⟩:∃x,brB s.br=x:=⟨_,rfl⟩;rw[enb]at NM OC;rw[eck]at CK OC;rw[ebb]at BK OC;clear enb eck ebb h ev hz;obtain⟨num,nm,⟨o,tn,tm,tp,tl,tc⟩,bp,bn,bc,least,ex,needs⟩:=r;have HA:=mh hA;clear hA;have HA0:=mh (show w.heap.size<(w.alloc (.cells #[I O num,.string nm,I O o,I O tn,I O tm,.slice tp tl tc,.slice bp bn bc,I O least,I O ex,.bool needs] 81)).heap.size by simp);obtain⟨bit,ebit⟩:∃x,zH ex num=x:=⟨_,rfl⟩;have EB:(bits BinOp.and IntKind.i64 (ex / 2 ^ num.toNat) 1==1)=bit:=by rw[bit_one,ebit]
 simp only[ebit]at OC;clear ebit;obtain⟨O1,O2,O3,O4,O5⟩:=OC
 replace O1:=mh O1
 replace O2:=mh O2
 replace O3:=mh O3
 replace O4:=mh O4
 replace O5:=mh O5
 by_cases g:num<0∨15<num∨least<0∨268435456<least
 ·have HV:=mh (O1 g)
  have G:=mh g;clear g
  by_cases g1:num<0
  ·go_enter Tryz.func84,Tryz.ntmps84
   go_wp2_with (fail)
   go_ret
   exact⟨qA HV.symm,HA.out⟩
  by_cases g2:15<num
  ·go_enter Tryz.func84,Tryz.ntmps84
   go_wp2_with (fail)
   go_ret
   exact⟨qA HV.symm,HA.out⟩
  by_cases g3:least<0
  ·go_enter Tryz.func84,Tryz.ntmps84
   go_wp2_with (fail)
   go_ret
   exact⟨qA HV.symm,HA.out⟩
  have g4:268435456<least:=by have:=G.out;omega
  ·go_enter Tryz.func84,Tryz.ntmps84
   go_wp2_with (fail)
   go_ret
   exact⟨qA HV.symm,HA.out⟩
 ·have hn0:0≤num:=by omega
  have hn1:num≤15:=by omega
  have hl0:0≤least:=by omega
  have hl1:least≤268435456:=by omega
  have G:=mh g;clear g
  cases nb
  ·have HV:=mh (O2 G rfl)
   go_enter Tryz.func84,Tryz.ntmps84
   go_wp2_with (first|(go_at_call 120;(with_reducible refine cmo (NM.out _) ?_);rintro e w1 ⟨rfl,rfl⟩)|(go_at_call 121;(with_reducible refine cmo CK.out ?_);rintro e w2 ⟨rfl,hb2⟩;have HS2:=mh (show w.heap.size<w2.heap.size from nll HA0 hb2.size);have BK1:=mh (BK _ (qZ mle HA hb2));have HB2:=mh (qZ mle HA hb2);have hk0:=qJ hb2 0;have hk1:=qJ hb2 1;have hk2:=qJ hb2 2;have hk3:=qJ hb2 3;have hk4:=qJ hb2 4;have hk5:=qJ hb2 5;have hk6:=qJ hb2 6;have hk7:=qJ hb2 7;have hk8:=qJ hb2 8;have hk9:=qJ hb2 9;clear hb2)|(go_at_call 122;(with_reducible refine cmo BK1.out ?_);rintro e w3 ⟨rfl,hb3⟩;have hj0:=(hb3.cell (p:=⟨w.heap.size,0,none⟩) (by have:=HS2.out;omega)).trans hk0;have hj8:=(hb3.cell (p:=⟨w.heap.size,8,none⟩) (by have:=HS2.out;omega)).trans hk8;have HB3:=mh (qZ mle HB2 hb3);clear hb3))
   go_ret
   exact⟨qA HV.symm,HA.out⟩
  by_cases c0:ck=0
  ·have CZ:(ck==0)=true:=by rw[c0];rfl
   subst c0
   cases bb
   ·have HV:=mh (O4 G rfl rfl (.inl rfl))
    go_enter Tryz.func84,Tryz.ntmps84
    go_wp2_with (first|(go_at_call 120;(with_reducible refine cmo (NM.out _) ?_);rintro e w1 ⟨rfl,rfl⟩)|(go_at_call 121;(with_reducible refine cmo CK.out ?_);rintro e w2 ⟨rfl,hb2⟩;have HS2:=mh (show w.heap.size<w2.heap.size from nll HA0 hb2.size);have BK1:=mh (BK _ (qZ mle HA hb2));have HB2:=mh (qZ mle HA hb2);have hk0:=qJ hb2 0;have hk1:=qJ hb2 1;have hk2:=qJ hb2 2;have hk3:=qJ hb2 3;have hk4:=qJ hb2 4;have hk5:=qJ hb2 5;have hk6:=qJ hb2 6;have hk7:=qJ hb2 7;have hk8:=qJ hb2 8;have hk9:=qJ hb2 9;clear hb2)|(go_at_call 122;(with_reducible refine cmo BK1.out ?_);rintro e w3 ⟨rfl,hb3⟩;have hj0:=(hb3.cell (p:=⟨w.heap.size,0,none⟩) (by have:=HS2.out;omega)).trans hk0;have hj8:=(hb3.cell (p:=⟨w.heap.size,8,none⟩) (by have:=HS2.out;omega)).trans hk8;have HB3:=mh (qZ mle HB2 hb3);clear hb3))
    go_ret
    exact⟨qA HV.symm,HB3.out⟩
   by_cases e1:ex<0
   ·have HV:=mh (O4 G rfl rfl (.inr (.inl e1)))
    go_enter Tryz.func84,Tryz.ntmps84
    go_wp2_with (first|(go_at_call 120;(with_reducible refine cmo (NM.out _) ?_);rintro e w1 ⟨rfl,rfl⟩)|(go_at_call 121;(with_reducible refine cmo CK.out ?_);rintro e w2 ⟨rfl,hb2⟩;have HS2:=mh (show w.heap.size<w2.heap.size from nll HA0 hb2.size);have BK1:=mh (BK _ (qZ mle HA hb2));have HB2:=mh (qZ mle HA hb2);have hk0:=qJ hb2 0;have hk1:=qJ hb2 1;have hk2:=qJ hb2 2;have hk3:=qJ hb2 3;have hk4:=qJ hb2 4;have hk5:=qJ hb2 5;have hk6:=qJ hb2 6;have hk7:=qJ hb2 7;have hk8:=qJ hb2 8;have hk9:=qJ hb2 9;clear hb2)|(go_at_call 122;(with_reducible refine cmo BK1.out ?_);rintro e w3 ⟨rfl,hb3⟩;have hj0:=(hb3.cell (p:=⟨w.heap.size,0,none⟩) (by have:=HS2.out;omega)).trans hk0;have hj8:=(hb3.cell (p:=⟨w.heap.size,8,none⟩) (by have:=HS2.out;omega)).trans hk8;have HB3:=mh (qZ mle HB2 hb3);clear hb3))
    go_ret
    exact⟨qA HV.symm,HB3.out⟩
   by_cases e2:65536≤ex
   ·have HV:=mh (O4 G rfl rfl (.inr (.inr (.inl e2))))
    go_enter Tryz.func84,Tryz.ntmps84
    go_wp2_with (first|(go_at_call 120;(with_reducible refine cmo (NM.out _) ?_);rintro e w1 ⟨rfl,rfl⟩)|(go_at_call 121;(with_reducible refine cmo CK.out ?_);rintro e w2 ⟨rfl,hb2⟩;have HS2:=mh (show w.heap.size<w2.heap.size from nll HA0 hb2.size);have BK1:=mh (BK _ (qZ mle HA hb2));have HB2:=mh (qZ mle HA hb2);have hk0:=qJ hb2 0;have hk1:=qJ hb2 1;have hk2:=qJ hb2 2;have hk3:=qJ hb2 3;have hk4:=qJ hb2 4;have hk5:=qJ hb2 5;have hk6:=qJ hb2 6;have hk7:=qJ hb2 7;have hk8:=qJ hb2 8;have hk9:=qJ hb2 9;clear hb2)|(go_at_call 122;(with_reducible refine cmo BK1.out ?_);rintro e w3 ⟨rfl,hb3⟩;have hj0:=(hb3.cell (p:=⟨w.heap.size,0,none⟩) (by have:=HS2.out;omega)).trans hk0;have hj8:=(hb3.cell (p:=⟨w.heap.size,8,none⟩) (by have:=HS2.out;omega)).trans hk8;have HB3:=mh (qZ mle HB2 hb3);clear hb3))
    go_ret
    exact⟨qA HV.symm,HB3.out⟩
   cases bit
   ·have HV:=mh (O5 G rfl rfl (by simp;omega))
    go_enter Tryz.func84,Tryz.ntmps84
    go_wp2_with (first|(go_at_call 120;(with_reducible refine cmo (NM.out _) ?_);rintro e w1 ⟨rfl,rfl⟩)|(go_at_call 121;(with_reducible refine cmo CK.out ?_);rintro e w2 ⟨rfl,hb2⟩;have HS2:=mh (show w.heap.size<w2.heap.size from nll HA0 hb2.size);have BK1:=mh (BK _ (qZ mle HA hb2));have HB2:=mh (qZ mle HA hb2);have hk0:=qJ hb2 0;have hk1:=qJ hb2 1;have hk2:=qJ hb2 2;have hk3:=qJ hb2 3;have hk4:=qJ hb2 4;have hk5:=qJ hb2 5;have hk6:=qJ hb2 6;have hk7:=qJ hb2 7;have hk8:=qJ hb2 8;have hk9:=qJ hb2 9;clear hb2)|(go_at_call 122;(with_reducible refine cmo BK1.out ?_);rintro e w3 ⟨rfl,hb3⟩;have hj0:=(hb3.cell (p:=⟨w.heap.size,0,none⟩) (by have:=HS2.out;omega)).trans hk0;have hj8:=(hb3.cell (p:=⟨w.heap.size,8,none⟩) (by have:=HS2.out;omega)).trans hk8;have HB3:=mh (qZ mle HB2 hb3);clear hb3))
    go_ret
    exact⟨qA HV.symm,HB3.out⟩
   ·have HV:=mh (O4 G rfl rfl (.inr (.inr (.inr rfl))))
    go_enter Tryz.func84,Tryz.ntmps84
    go_wp2_with (first|(go_at_call 120;(with_reducible refine cmo (NM.out _) ?_);rintro e w1 ⟨rfl,rfl⟩)|(go_at_call 121;(with_reducible refine cmo CK.out ?_);rintro e w2 ⟨rfl,hb2⟩;have HS2:=mh (show w.heap.size<w2.heap.size from nll HA0 hb2.size);have BK1:=mh (BK _ (qZ mle HA hb2));have HB2:=mh (qZ mle HA hb2);have hk0:=qJ hb2 0;have hk1:=qJ hb2 1;have hk2:=qJ hb2 2;have hk3:=qJ hb2 3;have hk4:=qJ hb2 4;have hk5:=qJ hb2 5;have hk6:=qJ hb2 6;have hk7:=qJ hb2 7;have hk8:=qJ hb2 8;have hk9:=qJ hb2 9;clear hb2)|(go_at_call 122;(with_reducible refine cmo BK1.out ?_);rintro e w3 ⟨rfl,hb3⟩;have hj0:=(hb3.cell (p:=⟨w.heap.size,0,none⟩) (by have:=HS2.out;omega)).trans hk0;have hj8:=(hb3.cell (p:=⟨w.heap.size,8,none⟩) (by have:=HS2.out;omega)).trans hk8;have HB3:=mh (qZ mle HB2 hb3);clear hb3))
    go_ret
    exact⟨qA HV.symm,HB3.out⟩
  ·have HV:=mh (O3 G rfl c0)
   go_enter Tryz.func84,Tryz.ntmps84
   go_wp2_with (first|(go_at_call 120;(with_reducible refine cmo (NM.out _) ?_);rintro e w1 ⟨rfl,rfl⟩)|(go_at_call 121;(with_reducible refine cmo CK.out ?_);rintro e w2 ⟨rfl,hb2⟩;have HS2:=mh (show w.heap.size<w2.heap.size from nll HA0 hb2.size);have BK1:=mh (BK _ (qZ mle HA hb2));have HB2:=mh (qZ mle HA hb2);have hk0:=qJ hb2 0;have hk1:=qJ hb2 1;have hk2:=qJ hb2 2;have hk3:=qJ hb2 3;have hk4:=qJ hb2 4;have hk5:=qJ hb2 5;have hk6:=qJ hb2 6;have hk7:=qJ hb2 7;have hk8:=qJ hb2 8;have hk9:=qJ hb2 9;clear hb2)|(go_at_call 122;(with_reducible refine cmo BK1.out ?_);rintro e w3 ⟨rfl,hb3⟩;have hj0:=(hb3.cell (p:=⟨w.heap.size,0,none⟩) (by have:=HS2.out;omega)).trans hk0;have hj8:=(hb3.cell (p:=⟨w.heap.size,8,none⟩) (by have:=HS2.out;omega)).trans hk8;have HB3:=mh (qZ mle HB2 hb3);clear hb3))
   go_ret
   exact⟨qA HV.symm,HB2.out⟩
theorem cC {Q:Nat→Prop}(d:Nat)(r:RSx)(s:Sch)(w:World)(h:SV Q w d r s)(hz:r.nm.size≤9223372036854775807)(hc:count s.cond≤1099511627776) :
  Calls Tryz.prog 89 #[.agg #[I O r.num,.string r.nm,I O r.t.op,I O r.t.num,I O r.t.more,.slice r.t.p r.t.n r.t.c,.slice r.bp r.bn r.bc,I O r.least,I O r.ex,.bool r.needs]] w (kW (zY s) w):=by
 have hA:Below w.heap.size w (w.alloc (.cells #[I O r.num,.string r.nm,I O r.t.op,I O r.t.num,I O r.t.more,.slice r.t.p r.t.n r.t.c,.slice r.bp r.bn r.bc,I O r.least,I O r.ex,.bool r.needs] 81)):=(brf _ _).alloc mle _;have NM:=mh (show ∀W,Calls Tryz.prog 125 #[.string r.nm] W (fun e w' => e = .returned (.bool (Wo.nameB s.nm.data.toList))∧W=w') from fun W=>h.nm▸qHA r.nm W hz);have CK:=mh (cU d r.t s.cond _ (h.below hA).t hc);have BK:=mh (fun (W:World) (hW:Below w.heap.size w W)=>show Calls Tryz.prog 127 #[.slice r.bp r.bn r.bc] W (yC (brB s.br) W) from nW r.bp s.br r.bn r.bc W h.bn (h.below hW).br);obtain⟨v,ev⟩:∃v,zY s=v:=⟨_,rfl⟩;have OC:=sA (show oneV r.num r.least r.ex (Wo.nameB s.nm.data.toList) (gH s.cond) (brB s.br) (zH r.ex r.num)=v from by rw[← ev,h.num,h.least,h.ex];rfl);rw[ev];obtain⟨nb,enb⟩:∃x,Wo.nameB s.nm.data.toList=x:=⟨_,rfl⟩;obtain⟨ck,eck⟩:∃x,gH s.cond=x:=⟨_,rfl⟩;obtain⟨bb,ebb⟩:∃x,brB s.br=x:=⟨_,rfl⟩;rw[enb]at NM OC;rw[eck]at CK OC;rw[ebb]at BK OC;clear enb eck ebb h ev hz hc;obtain⟨num,nm,⟨o,tn,tm,tp,tl,tc⟩,bp,bn,bc,least,ex,needs⟩:=r;have HA:=mh hA;clear hA;have HA0:=mh (show w.heap.size<(w.alloc (.cells #[I O num,.string nm,I O o,I O tn,I O tm,.slice tp tl tc,.slice bp bn bc,I O least,I O ex,.bool needs] 81)).heap.size by simp);obtain⟨bit,ebit⟩:∃x,zH ex num=x:=⟨_,rfl⟩;have EB:(bits BinOp.and IntKind.i64 (ex / 2 ^ num.toNat) 1==1)=bit:=by rw[bit_one,ebit]
 simp only[ebit]at OC;clear ebit;obtain⟨O1,O2,O3,O4,O5⟩:=OC
 replace O1:=mh O1
 replace O2:=mh O2
 replace O3:=mh O3
 replace O4:=mh O4
 replace O5:=mh O5
 by_cases g:num<0∨15<num∨least<0∨268435456<least
 ·have HV:=mh (O1 g)
  have G:=mh g;clear g
  by_cases g1:num<0
  ·go_enter Tryz.func89,Tryz.ntmps89
   go_wp2_with (fail)
   go_ret
   exact⟨qA HV.symm,HA.out⟩
  by_cases g2:15<num
  ·go_enter Tryz.func89,Tryz.ntmps89
   go_wp2_with (fail)
   go_ret
   exact⟨qA HV.symm,HA.out⟩
  by_cases g3:least<0
  ·go_enter Tryz.func89,Tryz.ntmps89
   go_wp2_with (fail)
   go_ret
   exact⟨qA HV.symm,HA.out⟩
  have g4:268435456<least:=by have:=G.out;omega
  ·go_enter Tryz.func89,Tryz.ntmps89
   go_wp2_with (fail)
   go_ret
   exact⟨qA HV.symm,HA.out⟩
 ·have hn0:0≤num:=by omega
  have hn1:num≤15:=by omega
  have hl0:0≤least:=by omega
  have hl1:least≤268435456:=by omega
  have G:=mh g;clear g
  cases nb
  ·have HV:=mh (O2 G rfl)
   go_enter Tryz.func89,Tryz.ntmps89
   go_wp2_with (first|(go_at_call 125;(with_reducible refine cmo (NM.out _) ?_);rintro e w1 ⟨rfl,rfl⟩)|(go_at_call 126;(with_reducible refine cmo CK.out ?_);rintro e w2 ⟨rfl,hb2⟩;have HS2:=mh (show w.heap.size<w2.heap.size from nll HA0 hb2.size);have BK1:=mh (BK _ (qZ mle HA hb2));have HB2:=mh (qZ mle HA hb2);have hk0:=qJ hb2 0;have hk1:=qJ hb2 1;have hk2:=qJ hb2 2;have hk3:=qJ hb2 3;have hk4:=qJ hb2 4;have hk5:=qJ hb2 5;have hk6:=qJ hb2 6;have hk7:=qJ hb2 7;have hk8:=qJ hb2 8;have hk9:=qJ hb2 9;clear hb2)|(go_at_call 127;(with_reducible refine cmo BK1.out ?_);rintro e w3 ⟨rfl,hb3⟩;have hj0:=(hb3.cell (p:=⟨w.heap.size,0,none⟩) (by have:=HS2.out;omega)).trans hk0;have hj8:=(hb3.cell (p:=⟨w.heap.size,8,none⟩) (by have:=HS2.out;omega)).trans hk8;have HB3:=mh (qZ mle HB2 hb3);clear hb3))
   go_ret
   exact⟨qA HV.symm,HA.out⟩
  by_cases c0:ck=0
  ·have CZ:(ck==0)=true:=by rw[c0];rfl
   subst c0
   cases bb
   ·have HV:=mh (O4 G rfl rfl (.inl rfl))
    go_enter Tryz.func89,Tryz.ntmps89
    go_wp2_with (first|(go_at_call 125;(with_reducible refine cmo (NM.out _) ?_);rintro e w1 ⟨rfl,rfl⟩)|(go_at_call 126;(with_reducible refine cmo CK.out ?_);rintro e w2 ⟨rfl,hb2⟩;have HS2:=mh (show w.heap.size<w2.heap.size from nll HA0 hb2.size);have BK1:=mh (BK _ (qZ mle HA hb2));have HB2:=mh (qZ mle HA hb2);have hk0:=qJ hb2 0;have hk1:=qJ hb2 1;have hk2:=qJ hb2 2;have hk3:=qJ hb2 3;have hk4:=qJ hb2 4;have hk5:=qJ hb2 5;have hk6:=qJ hb2 6;have hk7:=qJ hb2 7;have hk8:=qJ hb2 8;have hk9:=qJ hb2 9;clear hb2)|(go_at_call 127;(with_reducible refine cmo BK1.out ?_);rintro e w3 ⟨rfl,hb3⟩;have hj0:=(hb3.cell (p:=⟨w.heap.size,0,none⟩) (by have:=HS2.out;omega)).trans hk0;have hj8:=(hb3.cell (p:=⟨w.heap.size,8,none⟩) (by have:=HS2.out;omega)).trans hk8;have HB3:=mh (qZ mle HB2 hb3);clear hb3))
    go_ret
    exact⟨qA HV.symm,HB3.out⟩
   by_cases e1:ex<0
   ·have HV:=mh (O4 G rfl rfl (.inr (.inl e1)))
    go_enter Tryz.func89,Tryz.ntmps89
    go_wp2_with (first|(go_at_call 125;(with_reducible refine cmo (NM.out _) ?_);rintro e w1 ⟨rfl,rfl⟩)|(go_at_call 126;(with_reducible refine cmo CK.out ?_);rintro e w2 ⟨rfl,hb2⟩;have HS2:=mh (show w.heap.size<w2.heap.size from nll HA0 hb2.size);have BK1:=mh (BK _ (qZ mle HA hb2));have HB2:=mh (qZ mle HA hb2);have hk0:=qJ hb2 0;have hk1:=qJ hb2 1;have hk2:=qJ hb2 2;have hk3:=qJ hb2 3;have hk4:=qJ hb2 4;have hk5:=qJ hb2 5;have hk6:=qJ hb2 6;have hk7:=qJ hb2 7;have hk8:=qJ hb2 8;have hk9:=qJ hb2 9;clear hb2)|(go_at_call 127;(with_reducible refine cmo BK1.out ?_);rintro e w3 ⟨rfl,hb3⟩;have hj0:=(hb3.cell (p:=⟨w.heap.size,0,none⟩) (by have:=HS2.out;omega)).trans hk0;have hj8:=(hb3.cell (p:=⟨w.heap.size,8,none⟩) (by have:=HS2.out;omega)).trans hk8;have HB3:=mh (qZ mle HB2 hb3);clear hb3))
    go_ret
    exact⟨qA HV.symm,HB3.out⟩
   by_cases e2:65536≤ex
   ·have HV:=mh (O4 G rfl rfl (.inr (.inr (.inl e2))))
    go_enter Tryz.func89,Tryz.ntmps89
    go_wp2_with (first|(go_at_call 125;(with_reducible refine cmo (NM.out _) ?_);rintro e w1 ⟨rfl,rfl⟩)|(go_at_call 126;(with_reducible refine cmo CK.out ?_);rintro e w2 ⟨rfl,hb2⟩;have HS2:=mh (show w.heap.size<w2.heap.size from nll HA0 hb2.size);have BK1:=mh (BK _ (qZ mle HA hb2));have HB2:=mh (qZ mle HA hb2);have hk0:=qJ hb2 0;have hk1:=qJ hb2 1;have hk2:=qJ hb2 2;have hk3:=qJ hb2 3;have hk4:=qJ hb2 4;have hk5:=qJ hb2 5;have hk6:=qJ hb2 6;have hk7:=qJ hb2 7;have hk8:=qJ hb2 8;have hk9:=qJ hb2 9;clear hb2)|(go_at_call 127;(with_reducible refine cmo BK1.out ?_);rintro e w3 ⟨rfl,hb3⟩;have hj0:=(hb3.cell (p:=⟨w.heap.size,0,none⟩) (by have:=HS2.out;omega)).trans hk0;have hj8:=(hb3.cell (p:=⟨w.heap.size,8,none⟩) (by have:=HS2.out;omega)).trans hk8;have HB3:=mh (qZ mle HB2 hb3);clear hb3))
    go_ret
    exact⟨qA HV.symm,HB3.out⟩
   cases bit
   ·have HV:=mh (O5 G rfl rfl (by simp;omega))
    go_enter Tryz.func89,Tryz.ntmps89
    go_wp2_with (first|(go_at_call 125;(with_reducible refine cmo (NM.out _) ?_);rintro e w1 ⟨rfl,rfl⟩)|(go_at_call 126;(with_reducible refine cmo CK.out ?_);rintro e w2 ⟨rfl,hb2⟩;have HS2:=mh (show w.heap.size<w2.heap.size from nll HA0 hb2.size);have BK1:=mh (BK _ (qZ mle HA hb2));have HB2:=mh (qZ mle HA hb2);have hk0:=qJ hb2 0;have hk1:=qJ hb2 1;have hk2:=qJ hb2 2;have hk3:=qJ hb2 3;have hk4:=qJ hb2 4;have hk5:=qJ hb2 5;have hk6:=qJ hb2 6;have hk7:=qJ hb2 7;have hk8:=qJ hb2 8;have hk9:=qJ hb2 9;clear hb2)|(go_at_call 127;(with_reducible refine cmo BK1.out ?_);rintro e w3 ⟨rfl,hb3⟩;have hj0:=(hb3.cell (p:=⟨w.heap.size,0,none⟩) (by have:=HS2.out;omega)).trans hk0;have hj8:=(hb3.cell (p:=⟨w.heap.size,8,none⟩) (by have:=HS2.out;omega)).trans hk8;have HB3:=mh (qZ mle HB2 hb3);clear hb3))
    go_ret
    exact⟨qA HV.symm,HB3.out⟩
   ·have HV:=mh (O4 G rfl rfl (.inr (.inr (.inr rfl))))
    go_enter Tryz.func89,Tryz.ntmps89
    go_wp2_with (first|(go_at_call 125;(with_reducible refine cmo (NM.out _) ?_);rintro e w1 ⟨rfl,rfl⟩)|(go_at_call 126;(with_reducible refine cmo CK.out ?_);rintro e w2 ⟨rfl,hb2⟩;have HS2:=mh (show w.heap.size<w2.heap.size from nll HA0 hb2.size);have BK1:=mh (BK _ (qZ mle HA hb2));have HB2:=mh (qZ mle HA hb2);have hk0:=qJ hb2 0;have hk1:=qJ hb2 1;have hk2:=qJ hb2 2;have hk3:=qJ hb2 3;have hk4:=qJ hb2 4;have hk5:=qJ hb2 5;have hk6:=qJ hb2 6;have hk7:=qJ hb2 7;have hk8:=qJ hb2 8;have hk9:=qJ hb2 9;clear hb2)|(go_at_call 127;(with_reducible refine cmo BK1.out ?_);rintro e w3 ⟨rfl,hb3⟩;have hj0:=(hb3.cell (p:=⟨w.heap.size,0,none⟩) (by have:=HS2.out;omega)).trans hk0;have hj8:=(hb3.cell (p:=⟨w.heap.size,8,none⟩) (by have:=HS2.out;omega)).trans hk8;have HB3:=mh (qZ mle HB2 hb3);clear hb3))
    go_ret
    exact⟨qA HV.symm,HB3.out⟩
  ·have HV:=mh (O3 G rfl c0)
   go_enter Tryz.func89,Tryz.ntmps89
   go_wp2_with (first|(go_at_call 125;(with_reducible refine cmo (NM.out _) ?_);rintro e w1 ⟨rfl,rfl⟩)|(go_at_call 126;(with_reducible refine cmo CK.out ?_);rintro e w2 ⟨rfl,hb2⟩;have HS2:=mh (show w.heap.size<w2.heap.size from nll HA0 hb2.size);have BK1:=mh (BK _ (qZ mle HA hb2));have HB2:=mh (qZ mle HA hb2);have hk0:=qJ hb2 0;have hk1:=qJ hb2 1;have hk2:=qJ hb2 2;have hk3:=qJ hb2 3;have hk4:=qJ hb2 4;have hk5:=qJ hb2 5;have hk6:=qJ hb2 6;have hk7:=qJ hb2 7;have hk8:=qJ hb2 8;have hk9:=qJ hb2 9;clear hb2)|(go_at_call 127;(with_reducible refine cmo BK1.out ?_);rintro e w3 ⟨rfl,hb3⟩;have hj0:=(hb3.cell (p:=⟨w.heap.size,0,none⟩) (by have:=HS2.out;omega)).trans hk0;have hj8:=(hb3.cell (p:=⟨w.heap.size,8,none⟩) (by have:=HS2.out;omega)).trans hk8;have HB3:=mh (qZ mle HB2 hb3);clear hb3))
   go_ret
   exact⟨qA HV.symm,HB2.out⟩
def idx (pr:Sch→Bool) (L:List Sch):Int:=match L.findIdx? pr with|some i=>(i:Int)|none => -1
def kF (q:Int) (s:Sch):Bool:=s.num==q
def kT (q:ByteArray) (s:Sch):Bool:=s.nm.data.toList==q.data.toList
theorem lR (L:List Sch)(n:Int):yE L n=idx (kF n) L:=rfl
theorem mU {pr:Sch→Bool}{L:List Sch}(h:∀j (hj:j<L.length),pr L[j]=false):idx pr L = -1:=by
 unfold idx
 rw[show L.findIdx? pr=none from List.findIdx?_eq_none_iff.2 fun x hx=>by
  obtain⟨j,hj,rfl⟩:=List.mem_iff_getElem.1 hx
  exact h j hj]
theorem jSA {pr:Sch→Bool}{L:List Sch}{k:Nat}(hk:k<L.length)(h:∀j (hj:j<L.length),j<k→pr L[j]=false)(h2:pr L[k]=true):idx pr L=(k:Int):=by
 unfold idx;rw[show L.findIdx? pr=some k from List.findIdx?_eq_some_iff_getElem.2 ⟨hk,h2,fun j hj=>by rw[h j (by omega) hj];decide⟩]
theorem uBA (pr:Sch→Bool)(L:List Sch):decide (0≤idx pr L)=L.any pr:=by
 unfold idx
 cases h:L.findIdx? pr with
 | none =>
   have h1:=List.findIdx?_eq_none_iff.1 h;have h2:L.any pr=false:=by
    rw[Bool.eq_false_iff];intro h3;obtain⟨x,hx,hp⟩:=List.any_eq_true.1 h3;rw[h1 x hx]at hp
    cases hp
   rw[h2];rfl
 | some k =>
   obtain⟨hk,h1, -⟩:=List.findIdx?_eq_some_iff_getElem.1 h;rw[show L.any pr=true from List.any_eq_true.2 ⟨L[k],List.getElem_mem hk,h1⟩]
   simp
theorem idx_ge (pr:Sch→Bool)(L:List Sch) : -1≤idx pr L∧idx pr L<(L.length:Int):=by
 unfold idx
 cases h:L.findIdx? pr with
 | none=>simp;omega
 | some k =>
   obtain⟨hk, -, -⟩:=List.findIdx?_eq_some_iff_getElem.1 h;simp only;omega
theorem lW (a b:ByteArray):(a.toList==b.toList)=(a.data.toList==b.data.toList):=by
 rw[ByteArray.toList_eq,ByteArray.toList_eq]
theorem gPA {Q:Nat→Prop}(d:Nat)(r:RSx)(s:Sch)(nb:Nat)(q:Int)(w:World)(h:SV Q w d r s)(hc:w.cell? ⟨nb,0,none⟩=some (I O q))(hl:nb<w.heap.size) :
  Calls Tryz.prog 168 #[.agg #[I O r.num,.string r.nm,I O r.t.op,I O r.t.num,I O r.t.more,.slice r.t.p r.t.n r.t.c,.slice r.bp r.bn r.bc,I O r.least,I O r.ex,.bool r.needs],.pointer (some ⟨nb,0,none⟩)] w (yC ((kF q) s) w):=by
 have HP:=mh (show(r.num==q)=(kF q) s from by rw[h.num];rfl);clear h;obtain⟨num,nm,⟨o,tn,tm,tp,tl,tc⟩,bp,bn,bc,least,ex,needs⟩:=r
 go_enter Tryz.func168,Tryz.ntmps168
 go_wp2
 go_ret
 exact⟨qT HP.out,(brf _ _).alloc mle _⟩
theorem rK {Q:Nat→Prop}(d:Nat)(p:Option Addr)(L:List Sch)(cap nb:Nat)(q:Int)(w:World)(h:xY Q w d p L)(hc:w.cell? ⟨nb,0,none⟩=some (I O q))(hl:nb<w.heap.size) :
  Calls Tryz.prog 123 #[.slice p L.length cap,.func (.func 168) #[] #[.pointer (some ⟨nb,0,none⟩)]] w (kW (idx (kF q) L) w):=by
 have hn:=h.len;have H:=mh h;have HC:=mh hc;clear h hc
 go_enter Tryz.func123,Tryz.ntmps123
 go_wp2
 go_loopw [8] (fun i wr=>∃k:Nat,k≤L.length∧i=I O k∧(∀j (hj:j<L.length),j<k→(kF q) L[j]=false)∧Below w.heap.size w wr) (fun i _=>L.length - (intOf i).toNat)
 case atStart=>exact⟨0,Nat.zero_le _,rfl,fun j hj hk=>absurd hk (Nat.not_lt_zero j),brf _ _⟩
 case round =>
  obtain⟨k,hk,rfl,hall,hb⟩:=hrel;have HA:=mh hall;have HB:=mh hb;have hsz:=hb.size;have hk0:(0:Int)≤(k:Int):=inn _
  by_cases hlt:k<L.length
  ·obtain⟨b,off,r,rfl,hbl,hC,hv⟩:=(H.below hb).at hlt
   have CE:=mh (gPA d r L[k] nb q wr hv ((hb.cell (p:=⟨nb,0,none⟩) hl).trans HC) (by omega));have hk1:(k:Int)<(L.length:Int):=by omega
   obtain⟨z,ez⟩:∃z,(kF q) L[k]=z:=⟨_,rfl⟩;have HZ:=mh ez;rw[ez]at CE;obtain⟨c0,c1,c2,c3,c4,c5,c6,c7,c8,c9⟩:=hC;obtain⟨num,nm,⟨o,tn,tm,tp,tl,tc⟩,bp,bn,bc,least,ex,needs⟩:=r;simp only at c0 c1 c2 c3 c4 c5 c6 c7 c8 c9 CE;clear hall hb hv ez
   cases z
   ·go_wp2_with (first|(go_at_call 168;(with_reducible refine cmo CE.out ?_);rintro e w1 ⟨rfl,hb1⟩))
    go_roundw
    case rel=>exact⟨k+1,by omega,by go_num,fun j hj hjk=>by
     by_cases e:j=k
     ·subst e;exact HZ.out
     ·exact HA j hj (by omega),qZ mle HB hb1⟩
    case measure=>simp[intOf];omega
   ·have HN:=mh (jSA (pr:=kF q) hlt HA HZ)
    go_wp2_with (first|(go_at_call 168;(with_reducible refine cmo CE.out ?_);rintro e w1 ⟨rfl,hb1⟩))
    go_ret
    exact⟨by rw[HN.out];rfl,qZ mle HB hb1⟩
  ·obtain rfl:k=L.length:=by omega
   have HN:=mh (mU (pr:=kF q) (fun j hj=>HA.out j hj hj));clear hall hb
   go_wp2
   go_ret
   exact⟨by rw[HN.out];rfl,HB.out⟩
theorem jMA {Q:Nat→Prop}(d:Nat)(p:Option Addr)(L:List Sch)(cap:Nat)(q:Int)(w:World)(h:xY Q w d p L):Calls Tryz.prog 124 #[.slice p L.length cap,I O q] w (kW (yE L q) w):=by
 have hb:Below w.heap.size w (w.alloc (.cells #[I O q] 3)):=(brf _ _).alloc mle _;have HX:=mh (rK d p L cap w.heap.size q (w.alloc (.cells #[I O q] 3)) (h.below hb) (cwn w #[I O q] 3 0) (by simp));have HB:=mh hb;rw[lR];clear hb h
 go_enter Tryz.func124,Tryz.ntmps124
 go_wp2_with (first|(go_at_call 123;(with_reducible refine cmo HX.out ?_);rintro e w1 ⟨rfl,hb1⟩))
 go_ret
 exact⟨rfl,HB.trans (hb1.mono HB.size)⟩
theorem xAA {Q:Nat→Prop}(d:Nat)(r:RSx)(s:Sch)(nb:Nat)(q:ByteArray)(w:World)(h:SV Q w d r s)(hc:w.cell? ⟨nb,1,none⟩=some (.string q))(hl:nb<w.heap.size) :
  Calls Tryz.prog 86 #[.agg #[I O r.num,.string r.nm,I O r.t.op,I O r.t.num,I O r.t.more,.slice r.t.p r.t.n r.t.c,.slice r.bp r.bn r.bc,I O r.least,I O r.ex,.bool r.needs],.pointer (some ⟨nb,0,none⟩)] w (yC ((kT q) s) w):=by
 have HP:=mh (show(r.nm.toList==q.toList)=(kT q) s from by rw[h.nm,lW];rfl);clear h;obtain⟨num,nm,⟨o,tn,tm,tp,tl,tc⟩,bp,bn,bc,least,ex,needs⟩:=r
 go_enter Tryz.func86,Tryz.ntmps86
 go_wp2
 go_ret
 exact⟨qT HP.out,(brf _ _).alloc mle _⟩
theorem pM {Q:Nat→Prop}(d:Nat)(p:Option Addr)(L:List Sch)(cap nb:Nat)(q:ByteArray)(w:World)(h:xY Q w d p L)(hc:w.cell? ⟨nb,1,none⟩=some (.string q))(hl:nb<w.heap.size) :
  Calls Tryz.prog 123 #[.slice p L.length cap,.func (.func 86) #[] #[.pointer (some ⟨nb,0,none⟩)]] w (kW (idx (kT q) L) w):=by
 have hn:=h.len;have H:=mh h;have HC:=mh hc;clear h hc
 go_enter Tryz.func123,Tryz.ntmps123
 go_wp2
 go_loopw [8] (fun i wr=>∃k:Nat,k≤L.length∧i=I O k∧(∀j (hj:j<L.length),j<k→(kT q) L[j]=false)∧Below w.heap.size w wr) (fun i _=>L.length - (intOf i).toNat)
 case atStart=>exact⟨0,Nat.zero_le _,rfl,fun j hj hk=>absurd hk (Nat.not_lt_zero j),brf _ _⟩
 case round =>
  obtain⟨k,hk,rfl,hall,hb⟩:=hrel;have HA:=mh hall;have HB:=mh hb;have hsz:=hb.size;have hk0:(0:Int)≤(k:Int):=inn _
  by_cases hlt:k<L.length
  ·obtain⟨b,off,r,rfl,hbl,hC,hv⟩:=(H.below hb).at hlt
   have CE:=mh (xAA d r L[k] nb q wr hv ((hb.cell (p:=⟨nb,1,none⟩) hl).trans HC) (by omega));have hk1:(k:Int)<(L.length:Int):=by omega
   obtain⟨z,ez⟩:∃z,(kT q) L[k]=z:=⟨_,rfl⟩;have HZ:=mh ez;rw[ez]at CE;obtain⟨c0,c1,c2,c3,c4,c5,c6,c7,c8,c9⟩:=hC;obtain⟨num,nm,⟨o,tn,tm,tp,tl,tc⟩,bp,bn,bc,least,ex,needs⟩:=r;simp only at c0 c1 c2 c3 c4 c5 c6 c7 c8 c9 CE;clear hall hb hv ez
   cases z
   ·go_wp2_with (first|(go_at_call 86;(with_reducible refine cmo CE.out ?_);rintro e w1 ⟨rfl,hb1⟩))
    go_roundw
    case rel=>exact⟨k+1,by omega,by go_num,fun j hj hjk=>by
     by_cases e:j=k
     ·subst e;exact HZ.out
     ·exact HA j hj (by omega),qZ mle HB hb1⟩
    case measure=>simp[intOf];omega
   ·have HN:=mh (jSA (pr:=kT q) hlt HA HZ)
    go_wp2_with (first|(go_at_call 86;(with_reducible refine cmo CE.out ?_);rintro e w1 ⟨rfl,hb1⟩))
    go_ret
    exact⟨by rw[HN.out];rfl,qZ mle HB hb1⟩
  ·obtain rfl:k=L.length:=by omega
   have HN:=mh (mU (pr:=kT q) (fun j hj=>HA.out j hj hj));clear hall hb
   go_wp2
   go_ret
   exact⟨by rw[HN.out];rfl,HB.out⟩
theorem dN {Q:Nat→Prop}(d:Nat)(p:Option Addr)(L:List Sch)(cap nb:Nat)(q:ByteArray)(w:World)(h:xY Q w d p L)(hc:w.cell? ⟨nb,1,none⟩=some (.string q))(hl:nb<w.heap.size) :
  Calls Tryz.prog 85 #[.slice p L.length cap,.func (.func 86) #[] #[.pointer (some ⟨nb,0,none⟩)]] w (yC (L.any (kT q)) w):=by
 have CI:=mh (pM d p L cap nb q w h hc hl);have HV:=mh (uBA (kT q) L);obtain⟨i,ei⟩:∃i,idx (kT q) L=i:=⟨_,rfl⟩;rw[ei]at CI HV;clear ei h hc
 go_enter Tryz.func85,Tryz.ntmps85
 go_wp2_with (first|(go_at_call 123;(with_reducible refine cmo CI.out ?_);rintro e w1 ⟨rfl,hb⟩))
 go_ret
 exact⟨qT HV.out,hb⟩
theorem pR {Q:Nat→Prop}(d:Nat)(p:Option Addr)(L:List Sch)(cap:Nat)(q:Int)(w:World)(h:xY Q w d p L):Calls Tryz.prog 90 #[.slice p L.length cap,I O q] w (kW (yE L q) w):=by
 have hn:=h.len;have H:=mh h;rw[lR];clear h
 go_enter Tryz.func90,Tryz.ntmps90
 go_wp2
 go_loopw [9] (fun i wr=>∃k:Nat,k≤L.length∧i=I O k∧(∀j (hj:j<L.length),j<k→kF q L[j]=false)∧Below w.heap.size w wr) (fun i _=>L.length - (intOf i).toNat)
 case atStart=>exact⟨0,Nat.zero_le _,rfl,fun j hj hk=>absurd hk (Nat.not_lt_zero j),brf _ _⟩
 case round =>
  obtain⟨k,hk,rfl,hall,hb⟩:=hrel;have HA:=mh hall;have HB:=mh hb;have hk0:(0:Int)≤(k:Int):=inn _
  by_cases hlt:k<L.length
  ·obtain⟨b,off,r,rfl,hbl,hC,hv⟩:=(H.below hb).at hlt
   have hk1:(k:Int)<(L.length:Int):=by omega
   have HQ:=mh hv.num;obtain⟨c0,c1,c2,c3,c4,c5,c6,c7,c8,c9⟩:=hC;obtain⟨num,nm,⟨o,tn,tm,tp,tl,tc⟩,bp,bn,bc,least,ex,needs⟩:=r;simp only at c0 c1 c2 c3 c4 c5 c6 c7 c8 c9 HQ;clear hall hb hv;have HB1:=mh (qK mle HB (.cells #[I O num,.string nm,I O o,I O tn,I O tm,.slice tp tl tc,.slice bp bn bc,I O least,I O ex,.bool needs] 81))
   by_cases e1:num=q
   ·have HN:=mh (jSA (pr:=kF q) hlt HA (by unfold kF;rw[← HQ.out];exact beq_iff_eq.2 e1))
    subst e1
    go_wp2
    go_ret
    exact⟨by rw[HN.out];rfl,HB1.out⟩
   ·have HZ:=mh (show kF q L[k]=false by unfold kF;rw[← HQ.out];exact beq_false_of_ne e1)
    go_wp2
    go_roundw
    case rel=>exact⟨k+1,by omega,by go_num,fun j hj hjk=>by
     by_cases e:j=k
     ·subst e;exact HZ.out
     ·exact HA j hj (by omega),HB1.out⟩
    case measure=>simp[intOf];omega
  ·obtain rfl:k=L.length:=by omega
   have HN:=mh (mU (pr:=kF q) (fun j hj=>HA.out j hj hj));clear hall hb
   go_wp2
   go_ret
   exact⟨by rw[HN.out];rfl,HB.out⟩
end Go.Proofs.YtefcalgjnkigjaaGreat
