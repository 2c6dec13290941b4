/- Packed. -/
import Derived.Test.YtbcmabolkkfgfaaGreatDoorQ18
set_option maxRecDepth 100000
set_option maxHeartbeats 8000000
open Go.Value renaming int → I
open Go.IntKind renaming i64 → O
namespace Go.Proofs.YtbcmabolkkfgfaaGreatDoor
open Go.RowKit Te Sc
theorem one_br {s:Sch}(h:one17 s=0):brB s.br=true:=by
 unfold one17 at h
 split at h
 ·cases h
 split at h
 ·cases h
 split at h
 ·rename_i h1;exact absurd h h1
 split at h
 ·cases h
 ·rename_i h1
  cases e:brB s.br
  ·exact absurd (.inl e) h1
  ·rfl
theorem amt_succ {l:List Brk}{sq:Int}{k:Nat}(hk:k<l.length):amt l sq (k+1)=amt l sq k+max 0 (min sq l[k].up - upB l k)*l[k].rate:=by
 show amt l sq k+(match l[k]? with|some b=>max 0 (min sq b.up - upB l k)*b.rate|none=>0)=_
 rw[List.getElem?_eq_getElem hk]
theorem br_right {l:List Brk}{k:Nat}(hk:k<l.length)(h:brAll l (k+1)=true):upB l k<l[k].up∧l[k].up≤268435456∧0≤l[k].rate∧l[k].rate≤1048576∧0≤upB l k:=by
 have h2:=h;rw[brAll_succ,Bool.and_eq_true]at h2;have h3:=h2.2;rw[brAt_some hk,Bool.and_eq_true,Bool.and_eq_true,Bool.and_eq_true,decide_eq_true_eq,decide_eq_true_eq,decide_eq_true_eq,decide_eq_true_eq]at h3;exact⟨h3.1,h3.2.1,h3.2.2.1,h3.2.2.2,upB_nonneg (by omega) h2.1⟩
theorem part_le {a b r:Int}(h0:0≤a)(h1:a≤b)(h2:0≤r)(h3:r≤1048576):0≤a*r∧a*r≤1048576*b:=by
 refine⟨Int.mul_nonneg h0 h2,?_⟩
 have e1:a*r≤a*1048576:=Int.mul_le_mul_of_nonneg_left h3 h0;omega
theorem amt_le {l:List Brk}{sq:Int}{k:Nat}(hk:k≤l.length)(h:brAll l k=true):0≤amt l sq k∧amt l sq k≤1048576*upB l k:=by
 induction k with
 | zero=>exact⟨Int.le_refl _,by unfold upB;simp[amt]⟩
 | succ k ih =>
   have hk' : k<l.length:=by omega
   have h1:=ih (by omega) (brAll_mono (Nat.le_succ k) h);obtain⟨b1,b2,b3,b4,b5⟩:=br_right hk' h;rw[amt_succ hk', upB_succ hk'];have h2:=part_le (a:=max 0 (min sq l[k].up - upB l k)) (b:=l[k].up - upB l k) (by omega) (by omega) b3 b4;omega
theorem upB_le {l:List Brk}{k:Nat}(hk:k≤l.length)(h:brAll l k=true):upB l k≤268435456:=by
 cases k with
 | zero=>unfold upB;simp
 | succ k=>rw[upB_succ (by omega)];exact(br_right (by omega) h).2.1
theorem amtE_zero {s:Sch}{sq:Int}(h:one17 s=0)(h0:0≤sq)(h1:sq≤268435456):amtE s sq=0:=by
 unfold amtE;rw[if_neg (by omega),if_neg (by omega)]
theorem amtV_zero {s:Sch}{sq:Int}(h:amtE s sq≠0):amtV s sq=0:=by unfold amtV;rw[if_pos h]
theorem amtV_ok {s:Sch}{sq:Int}(h:amtE s sq=0):amtV s sq=amt s.br sq s.br.length / 100:=by unfold amtV;rw[if_neg (by omega)]
theorem amount17_any {Q:Nat→Prop}(d:Nat)(r:RSx)(s:Sch)(sq:Int)(w:World)(h:SV Q w d r s)(hz:r.nm.size≤9223372036854775807) :
  Calls Tryz.prog 18 #[.agg #[I O r.num,.string r.nm,I O r.t.op,I O r.t.num,I O r.t.more,.slice r.t.p r.t.n r.t.c,.slice r.bp r.bn r.bc,I O r.least,I O r.ex,.bool r.needs],I O sq] w (ChkG (amtV s sq,amtE s sq) w):=by
 have CV:=mh (valid_any d r s _ (h.below (balloc mle (brf _ _) (.cells (sCells r).toArray 31))) hz);have HR:=mh h.br;have HN:=h.bn;clear h hz;obtain⟨num,nm,⟨o,tn,tm,tp,tl,tc⟩,bp,bn,bc,least,ex,needs⟩:=r;simp only[sCells]at CV;simp only at HR HN;have HA:=mh (balloc mle (brf w.heap.size w) (.cells #[I O num,.string nm,I O o,I O tn,I O tm,.slice tp tl tc,.slice bp bn bc,I O least,I O ex,.bool needs] 31));subst HN;obtain⟨v,ev⟩:∃v,one17 s=v:=⟨_,rfl⟩;rw[ev]at CV;obtain⟨cv,ecv⟩:∃v,(amtV s sq,amtE s sq)=v:=⟨_,rfl⟩;rw[ecv];have ECV:=mh ecv;have EV:=mh ev;clear ecv ev
 by_cases hv0:v=0
 rotate_left
 ·have HV:=mh (show cv=(0,17) from by
   have e:amtE s sq=17:=by unfold amtE;rw[if_pos (by rw[EV.out];exact hv0)]
   rw[← ECV.out,e,amtV_zero (by rw[e];decide)])
  have hne:(v != 0)=true:=by simpa using hv0
  clear hv0
  go_enter Tryz.func18,Tryz.ntmps18
  go_wp2_with (first|(go_at_call 28;(with_reducible refine cmo CV.out ?_);rintro e w1 ⟨rfl,hb1⟩;have HB1:=mh (bstep mle HA.out hb1);have k1:=mcell hb1 6;clear hb1))
  go_ret2
  exact⟨by rw[HV.out];rfl,HB1.out⟩
 subst hv0
 by_cases hs:sq<0∨268435456<sq
 ·have HV:=mh (show cv=(0,2) from by
   have e:amtE s sq=2:=by unfold amtE;rw[if_neg (by rw[EV.out];decide),if_pos hs]
   rw[← ECV.out,e,amtV_zero (by rw[e];decide)])
  have HS:=mh hs;clear hs
  by_cases h0:sq<0
  ·go_enter Tryz.func18,Tryz.ntmps18
   go_wp2_with (first|(go_at_call 28;(with_reducible refine cmo CV.out ?_);rintro e w1 ⟨rfl,hb1⟩;have HB1:=mh (bstep mle HA.out hb1);have k1:=mcell hb1 6;clear hb1))
   go_ret2
   exact⟨by rw[HV.out];rfl,HB1.out⟩
  ·have h1:268435456<sq:=by have:=HS.out;omega
   go_enter Tryz.func18,Tryz.ntmps18
   go_wp2_with (first|(go_at_call 28;(with_reducible refine cmo CV.out ?_);rintro e w1 ⟨rfl,hb1⟩;have HB1:=mh (bstep mle HA.out hb1);have k1:=mcell hb1 6;clear hb1))
   go_ret2
   exact⟨by rw[HV.out];rfl,HB1.out⟩
 have hs0:0≤sq:=by omega
 have hs1:sq≤268435456:=by omega
 have HV:=mh (show cv=(amt s.br sq s.br.length / 100,0) from by rw[← ECV.out,amtE_zero EV.out hs0 hs1,amtV_ok (amtE_zero EV.out hs0 hs1)]);have HBR:=mh (one_br EV.out);have BA:=mh (show brAll s.br s.br.length=true from by have:=HBR.out;unfold brB at this;rw[Bool.and_eq_true]at this;exact this.1);clear hs;obtain⟨l,el⟩:∃l,s.br=l:=⟨_,rfl⟩;rw[el]at HR HV BA CV HA ⊢;have hlen:=HR.out.len;clear el HBR
 go_enter Tryz.func18,Tryz.ntmps18
 go_wp2_with (first|(go_at_call 28;(with_reducible refine cmo CV.out ?_);rintro e w1 ⟨rfl,hb1⟩;have HB1:=mh (bstep mle HA.out hb1);have k1:=mcell hb1 6;clear hb1))
 go_loopw [6,7,22] (fun a b i wr=>∃k:Nat,k≤l.length∧i=I O k∧a=I O (amt l sq k)∧b=I O (upB l k)∧Below w.heap.size w wr) (fun _ _ i _=>l.length - (intOf i).toNat)
 case atStart=>exact⟨0,Nat.zero_le _,rfl,rfl,by unfold upB;simp,HB1.out⟩
 case round =>
  obtain⟨wo,rfl⟩:∃wo:World,wo=wr:=⟨_,rfl⟩;obtain⟨k,hk,rfl,rfl,rfl,hb⟩:=hrel;have HB:=mh hb;have hk0:(0:Int)≤(k:Int):=inn _;have AL:=amt_le (sq:=sq) hk (brAll_mono hk BA.out);have UL:=upB_le hk (brAll_mono hk BA.out)
  by_cases hlt:k<l.length
  ·have hk1:(k:Int)<(l.length:Int):=by omega
   obtain⟨b,off,x,rfl,hbl,x0,x1,hx⟩:=SBk_at (HR.out.below hb) hlt;have BR:=br_right hlt (brAll_mono (by omega) BA.out);have AS:=amt_succ (sq:=sq) hlt;have US:=upB_succ hlt;rw[hx.out]at BR AS US;obtain⟨up,rate⟩:=x;simp only at x0 x1 BR AS US;obtain⟨b1,b2,b3,b4,b5⟩:=BR;obtain⟨last,elast⟩:∃x,upB l k=x:=⟨_,rfl⟩;obtain⟨sum,esum⟩:∃x,amt l sq k=x:=⟨_,rfl⟩;rw[elast]at b1 b5 AL AS UL ⊢;rw[esum]at AL AS ⊢;obtain⟨l0,l1⟩:=AL;have pl:=part_le (a:=max 0 (min sq up - last)) (b:=up - last) (by omega) (by omega) b3 b4;obtain⟨X,eX⟩:∃X,max 0 (min sq up - last)*rate=X:=⟨_,rfl⟩;rw[eX]at pl AS;have AS0:=mh AS;clear AS;have US0:=mh US;clear US;have hwX:IntKind.i64.wrap (max 0 (min sq up - last)*rate)=X:=by rw[eX,IntKind.wrap_i64];omega
   have hwd:IntKind.i64.wrap (min sq up - last)=min sq up - last:=by rw[IntKind.wrap_i64];omega
   have pl0:=pl.1;have pl1:X≤1125899906842624:=by omega
   have l1' : sum≤1125899906842624:=by omega
   have HBJ:=mh (balloc mle hb (.cells #[I O up,I O rate] 54));clear hb hx elast esum eX pl l1 b1 b2 b3 b4 b5 UL
   go_wp2
   go_roundw
   case rel=>exact⟨k+1,by omega,by go_num,by rw[AS0.out],by rw[US0.out],HBJ.out⟩
   case measure=>simp[intOf];omega
  ·obtain rfl:k=l.length:=by omega
   have h0:0≤amt l sq l.length:=AL.1;have h1:amt l sq l.length≤1125899906842624:=by omega
   have DN:=mh (down100_any (amt l sq l.length) h0 h1 wo);clear hb AL UL h0 h1
   go_wp2_with (first|(go_at_call 38;(with_reducible refine cmo DN.out ?_);rintro e w1 ⟨rfl,rfl⟩))
   go_ret2
   exact⟨by rw[HV.out];rfl,HB.out⟩
theorem refamount17_any {Q:Nat→Prop}(d:Nat)(r:RSx)(s:Sch)(sq:Int)(w:World)(h:SV Q w d r s)(hz:r.nm.size≤9223372036854775807)(hc:count s.cond≤1099511627776) :
  Calls Tryz.prog 19 #[.agg #[I O r.num,.string r.nm,I O r.t.op,I O r.t.num,I O r.t.more,.slice r.t.p r.t.n r.t.c,.slice r.bp r.bn r.bc,I O r.least,I O r.ex,.bool r.needs],I O sq] w (ChkG (amtV s sq,amtE s sq) w):=by
 have CV:=mh (refone_any d r s _ (h.below (balloc mle (brf _ _) (.cells (sCells r).toArray 31))) hz hc);have HR:=mh h.br;have HN:=h.bn;clear h hz hc;obtain⟨num,nm,⟨o,tn,tm,tp,tl,tc⟩,bp,bn,bc,least,ex,needs⟩:=r;simp only[sCells]at CV;simp only at HR HN;have HA:=mh (balloc mle (brf w.heap.size w) (.cells #[I O num,.string nm,I O o,I O tn,I O tm,.slice tp tl tc,.slice bp bn bc,I O least,I O ex,.bool needs] 31));subst HN;obtain⟨v,ev⟩:∃v,one17 s=v:=⟨_,rfl⟩;rw[ev]at CV;obtain⟨cv,ecv⟩:∃v,(amtV s sq,amtE s sq)=v:=⟨_,rfl⟩;rw[ecv];have ECV:=mh ecv;have EV:=mh ev;clear ecv ev
 by_cases hv0:v=0
 rotate_left
 ·have HV:=mh (show cv=(0,17) from by
   have e:amtE s sq=17:=by unfold amtE;rw[if_pos (by rw[EV.out];exact hv0)]
   rw[← ECV.out,e,amtV_zero (by rw[e];decide)])
  have hne:(v != 0)=true:=by simpa using hv0
  clear hv0
  go_enter Tryz.func19,Tryz.ntmps19
  go_wp2_with (first|(go_at_call 32;(with_reducible refine cmo CV.out ?_);rintro e w1 ⟨rfl,hb1⟩;have HB1:=mh (bstep mle HA.out hb1);have k1:=mcell hb1 6;clear hb1))
  go_ret2
  exact⟨by rw[HV.out];rfl,HB1.out⟩
 subst hv0
 by_cases hs:sq<0∨268435456<sq
 ·have HV:=mh (show cv=(0,2) from by
   have e:amtE s sq=2:=by unfold amtE;rw[if_neg (by rw[EV.out];decide),if_pos hs]
   rw[← ECV.out,e,amtV_zero (by rw[e];decide)])
  have HS:=mh hs;clear hs
  by_cases h0:sq<0
  ·go_enter Tryz.func19,Tryz.ntmps19
   go_wp2_with (first|(go_at_call 32;(with_reducible refine cmo CV.out ?_);rintro e w1 ⟨rfl,hb1⟩;have HB1:=mh (bstep mle HA.out hb1);have k1:=mcell hb1 6;clear hb1))
   go_ret2
   exact⟨by rw[HV.out];rfl,HB1.out⟩
  ·have h1:268435456<sq:=by have:=HS.out;omega
   go_enter Tryz.func19,Tryz.ntmps19
   go_wp2_with (first|(go_at_call 32;(with_reducible refine cmo CV.out ?_);rintro e w1 ⟨rfl,hb1⟩;have HB1:=mh (bstep mle HA.out hb1);have k1:=mcell hb1 6;clear hb1))
   go_ret2
   exact⟨by rw[HV.out];rfl,HB1.out⟩
 have hs0:0≤sq:=by omega
 have hs1:sq≤268435456:=by omega
 have HV:=mh (show cv=(amt s.br sq s.br.length / 100,0) from by rw[← ECV.out,amtE_zero EV.out hs0 hs1,amtV_ok (amtE_zero EV.out hs0 hs1)]);have HBR:=mh (one_br EV.out);have BA:=mh (show brAll s.br s.br.length=true from by have:=HBR.out;unfold brB at this;rw[Bool.and_eq_true]at this;exact this.1);clear hs;obtain⟨l,el⟩:∃l,s.br=l:=⟨_,rfl⟩;rw[el]at HR HV BA CV HA ⊢;have hlen:=HR.out.len;clear el HBR
 go_enter Tryz.func19,Tryz.ntmps19
 go_wp2_with (first|(go_at_call 32;(with_reducible refine cmo CV.out ?_);rintro e w1 ⟨rfl,hb1⟩;have HB1:=mh (bstep mle HA.out hb1);have k1:=mcell hb1 6;clear hb1))
 go_loopw [6,7,22] (fun a b i wr=>∃k:Nat,k≤l.length∧i=I O k∧a=I O (amt l sq k)∧b=I O (upB l k)∧Below w.heap.size w wr) (fun _ _ i _=>l.length - (intOf i).toNat)
 case atStart=>exact⟨0,Nat.zero_le _,rfl,rfl,by unfold upB;simp,HB1.out⟩
 case round =>
  obtain⟨wo,rfl⟩:∃wo:World,wo=wr:=⟨_,rfl⟩;obtain⟨k,hk,rfl,rfl,rfl,hb⟩:=hrel;have HB:=mh hb;have hk0:(0:Int)≤(k:Int):=inn _;have AL:=amt_le (sq:=sq) hk (brAll_mono hk BA.out);have UL:=upB_le hk (brAll_mono hk BA.out)
  by_cases hlt:k<l.length
  ·have hk1:(k:Int)<(l.length:Int):=by omega
   obtain⟨b,off,x,rfl,hbl,x0,x1,hx⟩:=SBk_at (HR.out.below hb) hlt;have BR:=br_right hlt (brAll_mono (by omega) BA.out);have AS:=amt_succ (sq:=sq) hlt;have US:=upB_succ hlt;rw[hx.out]at BR AS US;obtain⟨up,rate⟩:=x;simp only at x0 x1 BR AS US;obtain⟨b1,b2,b3,b4,b5⟩:=BR;obtain⟨last,elast⟩:∃x,upB l k=x:=⟨_,rfl⟩;obtain⟨sum,esum⟩:∃x,amt l sq k=x:=⟨_,rfl⟩;rw[elast]at b1 b5 AL AS UL ⊢;rw[esum]at AL AS ⊢;obtain⟨l0,l1⟩:=AL;have pl:=part_le (a:=max 0 (min sq up - last)) (b:=up - last) (by omega) (by omega) b3 b4;obtain⟨X,eX⟩:∃X,max 0 (min sq up - last)*rate=X:=⟨_,rfl⟩;rw[eX]at pl AS;have AS0:=mh AS;clear AS;have US0:=mh US;clear US;have hwX:IntKind.i64.wrap (max 0 (min sq up - last)*rate)=X:=by rw[eX,IntKind.wrap_i64];omega
   have hwd:IntKind.i64.wrap (min sq up - last)=min sq up - last:=by rw[IntKind.wrap_i64];omega
   have pl0:=pl.1;have pl1:X≤1125899906842624:=by omega
   have l1' : sum≤1125899906842624:=by omega
   have HBJ:=mh (balloc mle hb (.cells #[I O up,I O rate] 54));clear hb hx elast esum eX pl l1 b1 b2 b3 b4 b5 UL
   go_wp2
   go_roundw
   case rel=>exact⟨k+1,by omega,by go_num,by rw[AS0.out],by rw[US0.out],HBJ.out⟩
   case measure=>simp[intOf];omega
  ·obtain rfl:k=l.length:=by omega
   have h0:0≤amt l sq l.length:=AL.1;have h1:amt l sq l.length≤1125899906842624:=by omega
   have DN:=mh (refdown100_any (amt l sq l.length) h0 h1 wo);clear hb AL UL h0 h1
   go_wp2_with (first|(go_at_call 39;(with_reducible refine cmo DN.out ?_);rintro e w1 ⟨rfl,rfl⟩))
   go_ret2
   exact⟨by rw[HV.out];rfl,HB.out⟩
structure RdrAt (wr:World) (t:Nat) (out:List Sch) (last:Int):Prop where
 v:∃v,wr.cell? ⟨t,0,none⟩=some v∧BldAt (t+1) wr v out
 last:wr.cell? ⟨t,1,none⟩=some (I O last)
 fr:∀i,wr.frozen? ⟨t,i,none⟩=false
 lt:t<wr.heap.size
theorem RdrAt.below {wr w' : World}{t:Nat}{out:List Sch}{last:Int}(h:RdrAt wr t out last)(hb:Below wr.heap.size wr w'):RdrAt w' t out last:=by
 obtain⟨⟨v,h1,h2⟩,h3,h4,h5⟩:=h;exact⟨⟨v,(hb.cell (p:=⟨t,0,none⟩) h5).trans h1,h2.below hb⟩,(hb.cell (p:=⟨t,1,none⟩) h5).trans h3,fun i=>(hb.frozen (p:=⟨t,i,none⟩) h5).trans (h4 i),nll h5 hb.size⟩
theorem setCell_frz (w:World)(a b:Addr)(u:Value):(w.setCell a u).frozen? b=w.frozen? b:=by simp
theorem RdrAt.stored {w7:World}{t:Nat}{v7 x0 x1:Value}{out:List Sch}(hB:BldAt (t+1) w7 v7 out)(h0:w7.cell? ⟨t,0,none⟩=some x0)(h1:w7.cell? ⟨t,1,none⟩=some x1)(hf:∀i,w7.frozen? ⟨t,i,none⟩=false)(l:Int):RdrAt ((w7.setCell ⟨t,0,none⟩ v7).setCell ⟨t,1,none⟩ (I O l)) t out l:=by
 have hl:=World.block_lt_of_cell? _ _ h0;refine⟨⟨v7,?_,hB.blocks (by rw[setCell_sz,setCell_sz];exact Nat.le_refl _) fun b hb _=>by rw[setCell_far _ (by omega),setCell_far _ (by omega)]⟩,?_,fun i=>by rw[setCell_frz,setCell_frz];exact hf i,by rw[setCell_sz,setCell_sz];exact hl⟩
 ·rw[World.cell?_setCell_other _ _ _ _ (fun e=>by cases e)]
  exact World.cell?_setCell_same _ _ _ h0
 ·exact World.cell?_setCell_same _ _ _ ((World.cell?_setCell_other _ _ _ _ (fun e=>by cases e)).trans h1)
theorem RdrAt.row {w W5 W6:World}{t g:Nat}{v:Value}{out A:List Sch}{s:Sch}{last:Int}(h:RdrAt w t out last)(h0:w.cell? ⟨t,0,none⟩=some v)(hb:Below w.heap.size w W5)(hsz:W6.heap.size=W5.heap.size)(far:∀b,b≠g→W6.heap[b]?=W5.heap[b]?)(hg:t+1≤g)(hB:Bld (t+1) W6 v A s):RdrAt W6 t (A ++ [s]) last:=by
 have h5:=h.below hb;have hc:∀i,W6.cell? ⟨t,i,none⟩=W5.cell? ⟨t,i,none⟩:=fun i=>World.cell?_of_block (w:=W5) (a:=⟨t,i,none⟩) (far t (by omega))
 have hf:∀i,W6.frozen? ⟨t,i,none⟩=W5.frozen? ⟨t,i,none⟩:=fun i=>by simp only[World.frozen?,far t (show t≠g by omega)]
 exact⟨⟨v,(hc 0).trans ((hb.cell (p:=⟨t,0,none⟩) h.lt).trans h0),.inr ⟨A,s,rfl,hB⟩⟩,(hc 1).trans h5.last,fun i=>(hf i).trans (h5.fr i),by rw[hsz];exact h5.lt⟩
theorem RdrAt.row2 {w W6:World}{t:Nat}{v:Value}{out A:List Sch}{s:Sch}{last:Int}(h:RdrAt w t out last)(h0:w.cell? ⟨t,0,none⟩=some v)(ht:W6.heap[t]?=w.heap[t]?)(hs:t<W6.heap.size)(hB:Bld (t+1) W6 v A s):RdrAt W6 t (A ++ [s]) last:=by
 have hc:∀i,W6.cell? ⟨t,i,none⟩=w.cell? ⟨t,i,none⟩:=fun i=>World.cell?_of_block (w:=w) (a:=⟨t,i,none⟩) ht
 have hf:∀i,W6.frozen? ⟨t,i,none⟩=w.frozen? ⟨t,i,none⟩:=fun i=>by simp only[World.frozen?,ht]
 exact⟨⟨v,(hc 0).trans h0,.inr ⟨A,s,rfl,hB⟩⟩,(hc 1).trans h.last,fun i=>(hf i).trans (h.fr i),hs⟩
theorem RdrAt.lastRow {w:World}{t:Nat}{A:List Sch}{s0:Sch}{last:Int}(h:RdrAt w t (A ++ [s0]) last):∃g cc,w.cell? ⟨t,0,none⟩=some (.slice (some ⟨g,0,none⟩) (A.length+1) cc)∧t+1≤g∧g<w.heap.size∧Bld (t+1) w (.slice (some ⟨g,0,none⟩) (A.length+1) cc) A s0∧(∃rr,SCells w g (A.length*10) rr∧rr.ex=s0.ex)∧(∀i,w.frozen? ⟨g,i,none⟩=false):=by
 obtain⟨⟨v,h0,hB⟩, -, -,h5⟩:=h
 rcases hB with⟨e, -⟩|⟨A', s', e,hB⟩
 ·exact absurd e (by simp)
 ·obtain⟨rfl,rfl⟩:=snoc_inj e
  have hB2:=hB;obtain⟨d,R,rr,lb,k1,k2⟩:=hB2;obtain⟨g,cc,rfl,a1,a2,a3,a4,a5, -⟩:=k1.at;exact⟨g,cc,h0,a1,a2,hB,⟨rr,a4,k2.ex⟩,a5⟩
theorem RdrAt.setLast {wr:World}{t:Nat}{out:List Sch}{last:Int}(h:RdrAt wr t out last)(l:Int):RdrAt (wr.setCell ⟨t,1,none⟩ (I O l)) t out l:=by
 obtain⟨⟨v,h1,h2⟩,h3,h4,h5⟩:=h;exact⟨⟨v,(World.cell?_setCell_other _ _ _ _ (fun e=>by cases e)).trans h1,h2.blocks (by rw[setCell_sz];exact Nat.le_refl _) fun b hb _=>setCell_far _ (by omega) _ _⟩,World.cell?_setCell_same _ _ _ h3,fun i=>by rw[setCell_frz];exact h4 i,by rw[setCell_sz];exact h5⟩
def stF (F t:Nat):Value := .func (.func F) #[.pointer (some ⟨t,0,none⟩)] #[]
def StG (F t:Nat) (out:List Sch) (last:Int) (w:World) (e:Ending) (w' : World):Prop:=e = .returned (.tuple #[stF F t,I O 0])∧RdrAt w' t out last∧Below t w w'
def StE (t:Nat) (er:Int) (w:World) (e:Ending) (w' : World):Prop:=(∃f,e = .returned (.tuple #[f,I O er]))∧Below t w w'
theorem num0_eq (a:List UInt8)(most:Int):num0 a most=if Wo.numB a 0 most=true then some (Wo.numV a 0 most) else none:=by
 unfold num0 Wo.numB Wo.numV
 cases Wo.numO a with
 | none=>simp
 | some v =>
   simp only
   by_cases h:v<0∨most<v
   ·rw[if_pos h,if_pos h];simp
   ·rw[if_neg h,if_neg h,if_neg h];simp
theorem now17_any (t g n c:Nat)(w:World)(h0:w.cell? ⟨t,0,none⟩=some (.slice (some ⟨g,0,none⟩) (n+1) c))(hn:n+1≤9223372036854775807) :
  Calls Tryz.prog 81 #[.pointer (some ⟨t,0,none⟩)] w (fun e w' => e = .returned (.pointer (some ⟨g,n*10,none⟩))∧∃m,w' = w.drewN m):=by
 obtain⟨k,ek⟩:∃k:Nat,n+1=k:=⟨_,rfl⟩;rw[ek]at h0 hn;obtain⟨i,ei⟩:∃i:Int,(k:Int) - 1=i:=⟨_,rfl⟩;have hw:IntKind.i64.wrap i=i:=by rw[IntKind.wrap_i64];omega
 have hi0:0≤i:=by omega
 have hi1:i<(k:Int):=by omega
 have hit:i.toNat=n:=by omega
 clear ek hn
 go_enter Tryz.func81,Tryz.ntmps81
 go_wp2
 go_quiet (fail)
 go_wp2
 go_ret
 exact⟨rfl,_,rfl⟩
theorem number17_any (s:ByteArray)(w:World)(hE:Env w)(hs:s.size≤281474976710656):Calls Tryz.prog 79 #[.string s] w (NumGive s.data.toList 0 268435456 w):=by
 have NU:=mh (number_any s 0 268435456 w hE hs);unfold NumGive at NU ⊢;clear hE hs
 go_enter Tryz.func79,Tryz.ntmps79
 go_wp2_with (first|(go_at_call 78;(with_reducible refine cmo NU.out ?_);rintro e w1 ⟨rfl,hb1⟩))
 go_ret2
 exact⟨rfl,hb1⟩
theorem refnumber17_any (s:ByteArray)(most:Int)(w:World)(hs:s.size≤9223372036854775807):Calls Tryz.prog 46 #[.string s,I O most] w (NumGive s.data.toList 0 most w):=by
 have NU:=mh (refnumber_any s 0 most w hs);unfold NumGive at NU ⊢;clear hs
 go_enter Tryz.func46,Tryz.ntmps46
 go_wp2_with (first|(go_at_call 84;(with_reducible refine cmo NU.out ?_);rintro e w1 ⟨rfl,hb1⟩))
 go_ret2
 exact⟨rfl,hb1⟩
def headP (ws:List (List UInt8)):Option Sch:=match ws with|x::r=>if x=wScheme then headR r else none | []=>none
def HeadG (t:Nat) (o:Option Sch) (out:List Sch) (w:World):Ending→World→Prop :=
 match o with
 | some s=>StG 80 t (out ++ [s]) (-1) w
 | none=>StE t 4 w
theorem headP_word {x:List UInt8}{r:List (List UInt8)}(h:x≠wScheme):headP (x::r)=none:=by unfold headP;simp only;rw[if_neg h]
theorem headP_len {ws:List (List UInt8)}(h4:ws.length≠4)(h5:ws.length≠5):headP ws=none:=by
 unfold headP
 split
 ·rename_i x r
  split
  ·unfold headR
   split
   ·rename_i a nm b r2
    rw[if_neg];rintro (rfl|rfl)
    ·exact h4 rfl
    ·exact h5 rfl
   ·rfl
  ·rfl
 ·rfl
theorem headP_ent {x a nm b e:List UInt8}(h:e≠wEnt):headP [x,a,nm,b,e]=none:=by
 unfold headP headR;simp only
 split
 ·rw[if_neg]
  rintro (h1|h1)
  ·cases h1
  ·injection h1 with h1;exact h h1
 ·rfl
theorem headP_go {a nm b:List UInt8}{r:List (List UInt8)}(h:r = []∨r = [wEnt]):headP (wScheme::a::nm::b::r)=if Wo.nameB nm=true∧Wo.numB a 0 15=true∧Wo.numB b 0 268435456=true then some (schF (Wo.numV a 0 15) ⟨nm.toArray⟩ (Wo.numV b 0 268435456) (decide (r = [wEnt]))) else none:=by
 unfold headP headR;simp only;rw[if_pos trivial,if_pos h,num0_eq,num0_eq]
 by_cases h1:Wo.nameB nm=true
 ·rw[if_pos h1]
  cases h2:Wo.numB a 0 15<;>cases h3:Wo.numB b 0 268435456<;>simp[h1,schF]
 ·rw[if_neg h1,if_neg (fun h=>h1 h.1)]
theorem four_of {ws:List ByteArray}(h:ws.length=4):∃a b c d,ws = [a,b,c,d]:=by
 match ws,h with
 | [a,b,c,d],_=>exact⟨a,b,c,d,rfl⟩
theorem five_of {ws:List ByteArray}(h:ws.length=5):∃a b c d e,ws = [a,b,c,d,e]:=by
 match ws,h with
 | [a,b,c,d,e],_=>exact⟨a,b,c,d,e,rfl⟩
theorem lit_eq (a:ByteArray)(l:List UInt8):(a.toList==l)=decide (a.data.toList=l):=by
 rw[ByteArray.toList_eq,Bool.eq_iff_iff,beq_iff_eq,decide_eq_true_eq]
theorem StE.nil (t:Nat)(er:Int)(w w' : World)(hb:Below t w w'):StE t er w (.returned (.tuple #[.nilFunc,I O er])) w' := ⟨⟨_,rfl⟩,hb⟩
theorem one_sch (W:World)(r:RSx):Recs SSc (W.alloc (.cells (sCells r).toArray 31)) (some ⟨W.heap.size,0,none⟩) [r]:=by
 have:=Recs.lit (S:=SSc) W 31 [r] (by show 1≤_;unfold maxLen;omega);have e:SSc.flat [r]=sCells r:=Shape.flat_single SSc r;rw[e]at this;exact this
theorem head4_any (t:Nat)(out:List Sch)(last:Int)(q:Option Addr)(x a nm b:ByteArray)(c:Nat)(w:World)(h:Recs SB w q [x,a,nm,b])(hz:∀y ∈ [x,a,nm,b],y.size≤16384)(hE:Env w)(hR:RdrAt w t out last)(ho:out.length≤1000) :
  Calls Tryz.prog 41 #[.pointer (some ⟨t,0,none⟩),.slice q 4 c] w (HeadG t (headP (ll [x,a,nm,b])) out w):=by
 have hl:=h.len;have htl:=hR.lt;obtain⟨B,Ox,rfl,hBl,g0⟩:=h.word (j:=0) (by simp);obtain⟨B1,O1,e1, -,g1⟩:=h.word (j:=1) (by simp)
 cases e1
 obtain⟨B2,O2,e2, -,g2⟩:=h.word (j:=2) (by simp)
 cases e2
 obtain⟨B3,O3,e3, -,g3⟩:=h.word (j:=3) (by simp)
 cases e3
 simp only[List.getElem_cons_zero,List.getElem_cons_succ,Nat.add_zero]at g0 g1 g2 g3;have hnz:=hz nm (by simp);have haz:=hz a (by simp);have hbz:=hz b (by simp)
 show Calls _ _ _ _ (HeadG t (headP [x.data.toList,a.data.toList,nm.data.toList,b.data.toList]) out w)
 by_cases hx:x.data.toList=wScheme
 rotate_left
 ·rw[headP_word hx]
  show Calls _ _ _ _ (StE t 4 w)
  have ez:(x.toList == [115,99,104,101,109,101])=false:=by rw[lit_eq];exact dqf hx
  clear h hE hR hz hx
  go_enter Tryz.func41,Tryz.ntmps41
  go_wp2
  go_ret2
  exact StE.nil _ _ _ _ (brf _ _)
 have ez:(x.toList == [115,99,104,101,109,101])=true:=by rw[lit_eq];exact dqt hx
 rw[hx];rw[headP_go (.inl rfl)];have NM:=mh (show ∀W,Calls Tryz.prog 49 #[.string nm] W (fun e w' => e = .returned (.bool (Wo.nameB nm.data.toList))∧W=w') from fun W=>name_any nm W (by omega));have NU1:=mh (show Calls Tryz.prog 78 #[.string a,I O 0,I O 15] w (fun e w' => e = .returned (.tuple #[I O (Wo.numV a.data.toList 0 15),.bool (Wo.numB a.data.toList 0 15)])∧Below w.heap.size w w') from number_any a 0 15 w hE (by omega));have NU2:=mh (fun (W:World) (hW:Below w.heap.size w W)=>show Calls Tryz.prog 79 #[.string b] W (fun e w' => e = .returned (.tuple #[I O (Wo.numV b.data.toList 0 268435456),.bool (Wo.numB b.data.toList 0 268435456)])∧Below W.heap.size W w') from number17_any b W (hE.below hW) (by omega));obtain⟨nb,enb⟩:∃z,Wo.nameB nm.data.toList=z:=⟨_,rfl⟩;obtain⟨k1,ek1⟩:∃z,Wo.numB a.data.toList 0 15=z:=⟨_,rfl⟩;obtain⟨k2,ek2⟩:∃z,Wo.numB b.data.toList 0 268435456=z:=⟨_,rfl⟩;obtain⟨v1,ev1⟩:∃z,Wo.numV a.data.toList 0 15=z:=⟨_,rfl⟩;obtain⟨v2,ev2⟩:∃z,Wo.numV b.data.toList 0 268435456=z:=⟨_,rfl⟩;rw[enb]at NM;rw[ek1,ev1]at NU1;rw[ek2,ev2]at NU2;rw[enb,ek1,ek2,ev1,ev2];have HRD:=mh hR;clear h hE hz hx enb ek1 ek2 ev1 ev2 hR
 cases nb
 ·rw[if_neg (by simp)]
  show Calls _ _ _ _ (StE t 4 w)
  go_enter Tryz.func41,Tryz.ntmps41
  go_wp2_with (first|(go_at_call 49;(with_reducible refine cmo (NM.out _) ?_);rintro e w1 ⟨rfl,rfl⟩))
  go_ret2
  exact StE.nil _ _ _ _ (brf _ _)
 cases k1
 ·rw[if_neg (by simp)]
  show Calls _ _ _ _ (StE t 4 w)
  go_enter Tryz.func41,Tryz.ntmps41
  go_wp2_with (first|(go_at_call 49;(with_reducible refine cmo (NM.out _) ?_);rintro e w1 ⟨rfl,rfl⟩)|(go_at_call 78;(with_reducible refine cmo NU1.out ?_);rintro e w2 ⟨rfl,hb2⟩;have k3c:=(hb2.cell (p:=⟨B,Ox+3,none⟩) hBl).trans g3;have k2c:=(hb2.cell (p:=⟨B,Ox+2,none⟩) hBl).trans g2;have NV2:=mh (NU2.out _ hb2);have HB2:=mh hb2;have hBl2:=nll hBl hb2.size;clear hb2)|(go_at_call 79;(with_reducible refine cmo NV2.out ?_);rintro e w3 ⟨rfl,hb3⟩;have m2c:=(hb3.cell (p:=⟨B,Ox+2,none⟩) hBl2).trans k2c;have HB3:=mh (bstep mle HB2.out hb3);clear hb3))
  go_ret2
  exact StE.nil _ _ _ _ (HB3.out.mono (Nat.le_of_lt htl))
 cases k2
 ·rw[if_neg (by simp)]
  show Calls _ _ _ _ (StE t 4 w)
  go_enter Tryz.func41,Tryz.ntmps41
  go_wp2_with (first|(go_at_call 49;(with_reducible refine cmo (NM.out _) ?_);rintro e w1 ⟨rfl,rfl⟩)|(go_at_call 78;(with_reducible refine cmo NU1.out ?_);rintro e w2 ⟨rfl,hb2⟩;have k3c:=(hb2.cell (p:=⟨B,Ox+3,none⟩) hBl).trans g3;have k2c:=(hb2.cell (p:=⟨B,Ox+2,none⟩) hBl).trans g2;have NV2:=mh (NU2.out _ hb2);have HB2:=mh hb2;have hBl2:=nll hBl hb2.size;clear hb2)|(go_at_call 79;(with_reducible refine cmo NV2.out ?_);rintro e w3 ⟨rfl,hb3⟩;have m2c:=(hb3.cell (p:=⟨B,Ox+2,none⟩) hBl2).trans k2c;have HB3:=mh (bstep mle HB2.out hb3);clear hb3))
  go_ret2
  exact StE.nil _ _ _ _ (HB3.out.mono (Nat.le_of_lt htl))
 rw[if_pos ⟨rfl,rfl,rfl⟩]
 show Calls _ _ _ _ (StG 80 t (out ++ [schF v1 ⟨nm.data.toList.toArray⟩ v2 (decide (([]:List (List UInt8)) = [wEnt]))]) (-1) w)
 go_enter Tryz.func41,Tryz.ntmps41
 go_wp2_with (first|(go_at_call 49;(with_reducible refine cmo (NM.out _) ?_);rintro e w1 ⟨rfl,rfl⟩)|(go_at_call 78;(with_reducible refine cmo NU1.out ?_);rintro e w2 ⟨rfl,hb2⟩;have k3c:=(hb2.cell (p:=⟨B,Ox+3,none⟩) hBl).trans g3;have k2c:=(hb2.cell (p:=⟨B,Ox+2,none⟩) hBl).trans g2;have NV2:=mh (NU2.out _ hb2);have HB2:=mh hb2;have hBl2:=nll hBl hb2.size;clear hb2)|(go_at_call 79;(with_reducible refine cmo NV2.out ?_);rintro e w3 ⟨rfl,hb3⟩;have m2c:=(hb3.cell (p:=⟨B,Ox+2,none⟩) hBl2).trans k2c;have HB3:=mh (bstep mle HB2.out hb3);clear hb3))
 have hR3:=HRD.out.below HB3.out;have HB3t:=mh (HB3.out.mono (Nat.le_of_lt htl));have ht3:=hR3.lt;obtain⟨⟨v,c0,hbld⟩,c1,hf, -⟩:=hR3;have f0:=hf 0;have f1:=hf 1;have HF:=mh hf;obtain⟨R,hRl,hOR,hBR⟩:=hbld.rows;obtain⟨p5,cc5,rfl, -, -, -, -, -⟩:=hOR.cut hRl;have HBR:=mh hBR;have HOR:=mh hOR;have hol0:0≤(out.length:Int):=inn _;clear hf hbld hOR hBR g0 g1 g2 g3 k3c k2c hBl hBl2;have hty:t<w3.heap.size:=ht3;have hA5:Below w3.heap.size w3 ((w3.alloc (.cells (sCells (rowF v1 nm v2 false)).toArray 31)).drew):=((brf _ _).alloc mle _).drew;have HA5:=mh hA5;have SRC:=mh ((one_sch w3 (rowF v1 nm v2 false)).drew);have hRl2:R.length≤1000:=by omega
 clear hA5
 go_region_law ((refine OwnR.stepAp el_sch (by rfl) (.tmp 61) (.tmp 71) (by rfl) (t+1) (.slice p5 out.length cc5) R [rowF v1 nm v2 false] (some ⟨w3.heap.size,0,none⟩) 1 1 rfl (HOR.out.below HA5.out) SRC.out (fun h=>by cases h) (by rfl) (by rfl) (Nat.le_trans hty HA5.out.size) (by omega) (by decide) ?_;intro v7 w7 hO7 hap7;obtain⟨p7,cc7,rfl, -⟩:=hO7.cut (show(R ++ [rowF v1 nm v2 false]).length=out.length+1 by rw[lap,hRl];rfl);have s0:=(hap7.below.cell (p:=⟨t,0,none⟩) (Nat.lt_succ_self t)).trans ((HA5.out.cell (p:=⟨t,0,none⟩) hty).trans c0);have z0:=(hap7.below.frozen (p:=⟨t,0,none⟩) (Nat.lt_succ_self t)).trans ((HA5.out.frozen (p:=⟨t,0,none⟩) hty).trans f0)))
 all_goals
  have s1:=(hap7.below.cell (p:=⟨t,1,none⟩) (Nat.lt_succ_self t)).trans ((HA5.out.cell (p:=⟨t,1,none⟩) hty).trans c1);have z1:=(hap7.below.frozen (p:=⟨t,1,none⟩) (Nat.lt_succ_self t)).trans ((HA5.out.frozen (p:=⟨t,1,none⟩) hty).trans f1);have zf:=fun i=>(hap7.below.frozen (p:=⟨t,i,none⟩) (Nat.lt_succ_self t)).trans ((HA5.out.frozen (p:=⟨t,i,none⟩) hty).trans (HF.out i))
  have FIN:=mh (RdrAt.stored (out:=out ++ [schF v1 nm v2 false]) (.inr ⟨out,_,rfl,HBR.out.push HA5.out mle hO7 hap7⟩) s0 s1 zf (-1));have FB:=mh (show Below t w ((w7.setCell ⟨t,0,none⟩ (.slice p7 (out.length+1) cc7)).setCell ⟨t,1,none⟩ (I O (-1))) from((HB3t.out.trans (HA5.out.mono (Nat.le_of_lt hty))).trans (hap7.below.mono (Nat.le_succ t)) |>.setCell (Nat.le_refl t) _).setCell (Nat.le_refl t) _);have ES:schF v1 ⟨nm.data.toList.toArray⟩ v2 (decide (([]:List (List UInt8)) = [wEnt]))=schF v1 nm v2 false:=by simp
  clear hO7 hap7 zf
  go_wp2
  go_ret2
  exact⟨rfl,ES▸FIN.out,FB.out⟩
theorem head5_any (t:Nat)(out:List Sch)(last:Int)(q:Option Addr)(x a nm b en:ByteArray)(c:Nat)(w:World)(h:Recs SB w q [x,a,nm,b,en])(hz:∀y ∈ [x,a,nm,b,en],y.size≤16384)(hE:Env w)(hR:RdrAt w t out last)(ho:out.length≤1000) :
  Calls Tryz.prog 41 #[.pointer (some ⟨t,0,none⟩),.slice q 5 c] w (HeadG t (headP (ll [x,a,nm,b,en])) out w):=by
 have hl:=h.len;have htl:=hR.lt;obtain⟨B,Ox,rfl,hBl,g0⟩:=h.word (j:=0) (by simp);obtain⟨B1,O1,e1, -,g1⟩:=h.word (j:=1) (by simp)
 cases e1
 obtain⟨B2,O2,e2, -,g2⟩:=h.word (j:=2) (by simp)
 cases e2
 obtain⟨B3,O3,e3, -,g3⟩:=h.word (j:=3) (by simp)
 cases e3
 obtain⟨B4,O4,e4, -,g4⟩:=h.word (j:=4) (by simp)
 cases e4
 simp only[List.getElem_cons_zero,List.getElem_cons_succ,Nat.add_zero]at g0 g1 g2 g3 g4;have hnz:=hz nm (by simp);have haz:=hz a (by simp);have hbz:=hz b (by simp)
 show Calls _ _ _ _ (HeadG t (headP [x.data.toList,a.data.toList,nm.data.toList,b.data.toList,en.data.toList]) out w)
 by_cases hx:x.data.toList=wScheme
 rotate_left
 ·rw[headP_word hx]
  show Calls _ _ _ _ (StE t 4 w)
  have ez:(x.toList == [115,99,104,101,109,101])=false:=by rw[lit_eq];exact dqf hx
  clear h hE hR hz hx
  go_enter Tryz.func41,Tryz.ntmps41
  go_wp2
  go_ret2
  exact StE.nil _ _ _ _ (brf _ _)
 have ez:(x.toList == [115,99,104,101,109,101])=true:=by rw[lit_eq];exact dqt hx
 rw[hx]
 by_cases hen:en.data.toList=wEnt
 rotate_left
 ·rw[headP_ent hen]
  show Calls _ _ _ _ (StE t 4 w)
  have ez5:(en.toList == [101,110,116,105,116,108,101,100])=false:=by rw[lit_eq];exact dqf hen
  clear h hE hR hz hx
  go_enter Tryz.func41,Tryz.ntmps41
  go_wp2
  go_ret2
  exact StE.nil _ _ _ _ (brf _ _)
 have ez5:(en.toList == [101,110,116,105,116,108,101,100])=true:=by rw[lit_eq];exact dqt hen
 rw[hen];rw[headP_go (.inr rfl)];have NM:=mh (show ∀W,Calls Tryz.prog 49 #[.string nm] W (fun e w' => e = .returned (.bool (Wo.nameB nm.data.toList))∧W=w') from fun W=>name_any nm W (by omega));have NU1:=mh (show Calls Tryz.prog 78 #[.string a,I O 0,I O 15] w (fun e w' => e = .returned (.tuple #[I O (Wo.numV a.data.toList 0 15),.bool (Wo.numB a.data.toList 0 15)])∧Below w.heap.size w w') from number_any a 0 15 w hE (by omega));have NU2:=mh (fun (W:World) (hW:Below w.heap.size w W)=>show Calls Tryz.prog 79 #[.string b] W (fun e w' => e = .returned (.tuple #[I O (Wo.numV b.data.toList 0 268435456),.bool (Wo.numB b.data.toList 0 268435456)])∧Below W.heap.size W w') from number17_any b W (hE.below hW) (by omega));obtain⟨nb,enb⟩:∃z,Wo.nameB nm.data.toList=z:=⟨_,rfl⟩;obtain⟨k1,ek1⟩:∃z,Wo.numB a.data.toList 0 15=z:=⟨_,rfl⟩;obtain⟨k2,ek2⟩:∃z,Wo.numB b.data.toList 0 268435456=z:=⟨_,rfl⟩;obtain⟨v1,ev1⟩:∃z,Wo.numV a.data.toList 0 15=z:=⟨_,rfl⟩;obtain⟨v2,ev2⟩:∃z,Wo.numV b.data.toList 0 268435456=z:=⟨_,rfl⟩;rw[enb]at NM;rw[ek1,ev1]at NU1;rw[ek2,ev2]at NU2;rw[enb,ek1,ek2,ev1,ev2];have HRD:=mh hR;clear h hE hz hx enb ek1 ek2 ev1 ev2 hR
 cases nb
 ·rw[if_neg (by simp)]
  show Calls _ _ _ _ (StE t 4 w)
  go_enter Tryz.func41,Tryz.ntmps41
  go_wp2_with (first|(go_at_call 49;(with_reducible refine cmo (NM.out _) ?_);rintro e w1 ⟨rfl,rfl⟩))
  go_ret2
  exact StE.nil _ _ _ _ (brf _ _)
 cases k1
 ·rw[if_neg (by simp)]
  show Calls _ _ _ _ (StE t 4 w)
  go_enter Tryz.func41,Tryz.ntmps41
  go_wp2_with (first|(go_at_call 49;(with_reducible refine cmo (NM.out _) ?_);rintro e w1 ⟨rfl,rfl⟩)|(go_at_call 78;(with_reducible refine cmo NU1.out ?_);rintro e w2 ⟨rfl,hb2⟩;have k3c:=(hb2.cell (p:=⟨B,Ox+3,none⟩) hBl).trans g3;have k2c:=(hb2.cell (p:=⟨B,Ox+2,none⟩) hBl).trans g2;have NV2:=mh (NU2.out _ hb2);have HB2:=mh hb2;have hBl2:=nll hBl hb2.size;clear hb2)|(go_at_call 79;(with_reducible refine cmo NV2.out ?_);rintro e w3 ⟨rfl,hb3⟩;have m2c:=(hb3.cell (p:=⟨B,Ox+2,none⟩) hBl2).trans k2c;have HB3:=mh (bstep mle HB2.out hb3);clear hb3))
  go_ret2
  exact StE.nil _ _ _ _ (HB3.out.mono (Nat.le_of_lt htl))
 cases k2
 ·rw[if_neg (by simp)]
  show Calls _ _ _ _ (StE t 4 w)
  go_enter Tryz.func41,Tryz.ntmps41
  go_wp2_with (first|(go_at_call 49;(with_reducible refine cmo (NM.out _) ?_);rintro e w1 ⟨rfl,rfl⟩)|(go_at_call 78;(with_reducible refine cmo NU1.out ?_);rintro e w2 ⟨rfl,hb2⟩;have k3c:=(hb2.cell (p:=⟨B,Ox+3,none⟩) hBl).trans g3;have k2c:=(hb2.cell (p:=⟨B,Ox+2,none⟩) hBl).trans g2;have NV2:=mh (NU2.out _ hb2);have HB2:=mh hb2;have hBl2:=nll hBl hb2.size;clear hb2)|(go_at_call 79;(with_reducible refine cmo NV2.out ?_);rintro e w3 ⟨rfl,hb3⟩;have m2c:=(hb3.cell (p:=⟨B,Ox+2,none⟩) hBl2).trans k2c;have HB3:=mh (bstep mle HB2.out hb3);clear hb3))
  go_ret2
  exact StE.nil _ _ _ _ (HB3.out.mono (Nat.le_of_lt htl))
 rw[if_pos ⟨rfl,rfl,rfl⟩]
 show Calls _ _ _ _ (StG 80 t (out ++ [schF v1 ⟨nm.data.toList.toArray⟩ v2 (decide ([wEnt] = [wEnt]))]) (-1) w)
 go_enter Tryz.func41,Tryz.ntmps41
 go_wp2_with (first|(go_at_call 49;(with_reducible refine cmo (NM.out _) ?_);rintro e w1 ⟨rfl,rfl⟩)|(go_at_call 78;(with_reducible refine cmo NU1.out ?_);rintro e w2 ⟨rfl,hb2⟩;have k3c:=(hb2.cell (p:=⟨B,Ox+3,none⟩) hBl).trans g3;have k2c:=(hb2.cell (p:=⟨B,Ox+2,none⟩) hBl).trans g2;have NV2:=mh (NU2.out _ hb2);have HB2:=mh hb2;have hBl2:=nll hBl hb2.size;clear hb2)|(go_at_call 79;(with_reducible refine cmo NV2.out ?_);rintro e w3 ⟨rfl,hb3⟩;have m2c:=(hb3.cell (p:=⟨B,Ox+2,none⟩) hBl2).trans k2c;have HB3:=mh (bstep mle HB2.out hb3);clear hb3))
 have hR3:=HRD.out.below HB3.out;have HB3t:=mh (HB3.out.mono (Nat.le_of_lt htl));have ht3:=hR3.lt;obtain⟨⟨v,c0,hbld⟩,c1,hf, -⟩:=hR3;have f0:=hf 0;have f1:=hf 1;have HF:=mh hf;obtain⟨R,hRl,hOR,hBR⟩:=hbld.rows;obtain⟨p5,cc5,rfl, -, -, -, -, -⟩:=hOR.cut hRl;have HBR:=mh hBR;have HOR:=mh hOR;have hol0:0≤(out.length:Int):=inn _;clear hf hbld hOR hBR g0 g1 g2 g3 g4 k3c k2c hBl hBl2;have hty:t<w3.heap.size:=ht3;have hA5:Below w3.heap.size w3 ((w3.alloc (.cells (sCells (rowF v1 nm v2 true)).toArray 31)).drew):=((brf _ _).alloc mle _).drew;have HA5:=mh hA5;have SRC:=mh ((one_sch w3 (rowF v1 nm v2 true)).drew);have hRl2:R.length≤1000:=by omega
 clear hA5
 go_region_law ((refine OwnR.stepAp el_sch (by rfl) (.tmp 61) (.tmp 71) (by rfl) (t+1) (.slice p5 out.length cc5) R [rowF v1 nm v2 true] (some ⟨w3.heap.size,0,none⟩) 1 1 rfl (HOR.out.below HA5.out) SRC.out (fun h=>by cases h) (by rfl) (by rfl) (Nat.le_trans hty HA5.out.size) (by omega) (by decide) ?_;intro v7 w7 hO7 hap7;obtain⟨p7,cc7,rfl, -⟩:=hO7.cut (show(R ++ [rowF v1 nm v2 true]).length=out.length+1 by rw[lap,hRl];rfl);have s0:=(hap7.below.cell (p:=⟨t,0,none⟩) (Nat.lt_succ_self t)).trans ((HA5.out.cell (p:=⟨t,0,none⟩) hty).trans c0);have z0:=(hap7.below.frozen (p:=⟨t,0,none⟩) (Nat.lt_succ_self t)).trans ((HA5.out.frozen (p:=⟨t,0,none⟩) hty).trans f0)))
 all_goals
  have s1:=(hap7.below.cell (p:=⟨t,1,none⟩) (Nat.lt_succ_self t)).trans ((HA5.out.cell (p:=⟨t,1,none⟩) hty).trans c1);have z1:=(hap7.below.frozen (p:=⟨t,1,none⟩) (Nat.lt_succ_self t)).trans ((HA5.out.frozen (p:=⟨t,1,none⟩) hty).trans f1);have zf:=fun i=>(hap7.below.frozen (p:=⟨t,i,none⟩) (Nat.lt_succ_self t)).trans ((HA5.out.frozen (p:=⟨t,i,none⟩) hty).trans (HF.out i))
  have FIN:=mh (RdrAt.stored (out:=out ++ [schF v1 nm v2 true]) (.inr ⟨out,_,rfl,HBR.out.push HA5.out mle hO7 hap7⟩) s0 s1 zf (-1));have FB:=mh (show Below t w ((w7.setCell ⟨t,0,none⟩ (.slice p7 (out.length+1) cc7)).setCell ⟨t,1,none⟩ (I O (-1))) from((HB3t.out.trans (HA5.out.mono (Nat.le_of_lt hty))).trans (hap7.below.mono (Nat.le_succ t)) |>.setCell (Nat.le_refl t) _).setCell (Nat.le_refl t) _);have ES:schF v1 ⟨nm.data.toList.toArray⟩ v2 (decide ([wEnt] = [wEnt]))=schF v1 nm v2 true:=by simp
  clear hO7 hap7 zf
  go_wp2
  go_ret2
  exact⟨rfl,ES▸FIN.out,FB.out⟩
theorem head17_any (t:Nat)(out:List Sch)(last:Int)(q:Option Addr)(ws:List ByteArray)(n c:Nat)(w:World)(hn:ws.length=n)(h:Recs SB w q ws)(hne:ws ≠ [])(hz:∀x∈ws,x.size≤16384)(hE:Env w)(hR:RdrAt w t out last)(ho:out.length≤1000) :
  Calls Tryz.prog 41 #[.pointer (some ⟨t,0,none⟩),.slice q n c] w (HeadG t (headP (ll ws)) out w):=by
 have hl:=h.len;rw[hn]at hl
 by_cases h4:n=4
 ·subst h4
  obtain⟨x,a,nm,b,rfl⟩:=four_of hn;exact head4_any t out last q x a nm b c w h hz hE hR ho
 by_cases h5:n=5
 ·subst h5
  obtain⟨x,a,nm,b,e,rfl⟩:=five_of hn;exact head5_any t out last q x a nm b e c w h hz hE hR ho
 obtain⟨x,r,rfl⟩:∃x r,ws=x::r:=by
  cases ws with
  | nil=>exact absurd rfl hne
  | cons x r=>exact⟨x,r,rfl⟩
 obtain⟨B,Ox,rfl,hBl,g0⟩:=h.word (j:=0) (by simp);simp only[List.getElem_cons_zero,Nat.add_zero]at g0;have hp:headP (ll (x::r))=none:=headP_len (by unfold ll;rw[List.length_map,hn];exact h4) (by unfold ll;rw[List.length_map,hn];exact h5);rw[hp]
 show Calls _ _ _ _ (StE t 4 w)
 have d4:((n:Int) != 4)=true:=by simp;omega
 have d5:((n:Int) != 5)=true:=by simp;omega
 have hn0:0<(n:Int):=by simp at hn;omega
 clear h hp hE hR hz hne;obtain⟨z,ez⟩:∃z,(x.toList == [115,99,104,101,109,101])=z:=⟨_,rfl⟩
 cases z
 all_goals
  go_enter Tryz.func41,Tryz.ntmps41
  go_wp2
  go_ret2
  exact StE.nil _ _ _ _ (brf _ _)
def RateG (t:Nat) (ws:List (List UInt8)) (A:List Sch) (s0:Sch) (last:Int) (w:World):Ending→World→Prop :=
 match ws with
 | []=>StE t 4 w
 | x::r=>if x=wRate then (match rateR r with|some b=>StG 129 t (A ++ [{ s0 with br:=s0.br ++ [b] }]) last w|none=>StE t 4 w) else StE t 4 w
theorem rateR_len {r:List (List UInt8)}(h:r.length≠2):rateR r=none:=by
 unfold rateR
 split
 ·exact absurd rfl h
 ·rfl
theorem rateR_two (a b:List UInt8):rateR [a,b]=if Wo.numB a 0 268435456=true∧Wo.numB b 0 268435456=true then some ⟨Wo.numV a 0 268435456,Wo.numV b 0 268435456⟩ else none:=by
 unfold rateR;simp only;rw[num0_eq,num0_eq]
 cases h2:Wo.numB a 0 268435456<;>cases h3:Wo.numB b 0 268435456<;>simp
theorem one_brk (W:World)(b:Brk):Recs SBk (W.alloc (.cells #[I O b.up,I O b.rate] 54)) (some ⟨W.heap.size,0,none⟩) [b]:=Recs.lit (S:=SBk) W 54 [b] (by show 1≤_;unfold maxLen;omega)
theorem rate17_any (t:Nat)(A:List Sch)(s0:Sch)(last:Int)(q:Option Addr)(x:ByteArray)(r:List ByteArray)(n c:Nat)(w:World)(hn:(x::r).length=n)(h:Recs SB w q (x::r))(hz:∀y∈r,y.size≤16384)(hE:Env w)(hR:RdrAt w t (A ++ [s0]) last)(hA:A.length≤1000)(hbl:s0.br.length≤1000) :
  Calls Tryz.prog 109 #[.pointer (some ⟨t,0,none⟩),.slice q n c] w (RateG t (ll (x::r)) A s0 last w):=by
 have hl:=h.len;have htl:=hR.lt;obtain⟨B,Ox,rfl,hBl,g0⟩:=h.word (j:=0) (by simp);simp only[List.getElem_cons_zero,Nat.add_zero]at g0;have hn0:0<(n:Int):=by rw[List.length_cons]at hn;omega
 show Calls _ _ _ _ (if x.data.toList=wRate then (match rateR (ll r) with|some b=>StG 129 t (A ++ [{ s0 with br:=s0.br ++ [b] }]) last w|none=>StE t 4 w) else StE t 4 w)
 by_cases hx:x.data.toList=wRate
 rotate_left
 ·rw[if_neg hx]
  have ez:(x.toList == [114,97,116,101])=false:=by rw[lit_eq];exact dqf hx
  clear h hE hR hz hx hl hn
  go_enter Tryz.func109,Tryz.ntmps109
  go_wp2
  go_ret2
  exact StE.nil _ _ _ _ (brf _ _)
 rw[if_pos hx];have ez:(x.toList == [114,97,116,101])=true:=by rw[lit_eq];exact dqt hx
 by_cases h3:n=3
 rotate_left
 ·rw[rateR_len (by unfold ll;rw[List.length_map];rw[List.length_cons]at hn;omega)]
  have d3:((n:Int) != 3)=true:=by simp;omega
  clear h hE hR hz hx hl hn
  go_enter Tryz.func109,Tryz.ntmps109
  go_wp2
  go_ret2
  exact StE.nil _ _ _ _ (brf _ _)
 subst h3;obtain⟨a,b,rfl⟩:∃a b,r = [a,b]:=by
  match r,hn with
  | [a,b],_=>exact⟨a,b,rfl⟩
 obtain⟨B1,O1,e1, -,g1⟩:=h.word (j:=1) (by simp)
 cases e1
 obtain⟨B2,O2,e2, -,g2⟩:=h.word (j:=2) (by simp)
 cases e2
 simp only[List.getElem_cons_zero,List.getElem_cons_succ]at g1 g2;have haz:=hz a (by simp);have hbz:=hz b (by simp)
 show Calls _ _ _ _ (match rateR [a.data.toList,b.data.toList] with|some b=>StG 129 t (A ++ [{ s0 with br:=s0.br ++ [b] }]) last w|none=>StE t 4 w)
 rw[rateR_two];have NU1:=mh (show Calls Tryz.prog 79 #[.string a] w (fun e w' => e = .returned (.tuple #[I O (Wo.numV a.data.toList 0 268435456),.bool (Wo.numB a.data.toList 0 268435456)])∧Below w.heap.size w w') from number17_any a w hE (by omega));have NU2:=mh (fun (W:World) (hW:Below w.heap.size w W)=>show Calls Tryz.prog 79 #[.string b] W (fun e w' => e = .returned (.tuple #[I O (Wo.numV b.data.toList 0 268435456),.bool (Wo.numB b.data.toList 0 268435456)])∧Below W.heap.size W w') from number17_any b W (hE.below hW) (by omega));obtain⟨k1,ek1⟩:∃z,Wo.numB a.data.toList 0 268435456=z:=⟨_,rfl⟩;obtain⟨k2,ek2⟩:∃z,Wo.numB b.data.toList 0 268435456=z:=⟨_,rfl⟩;obtain⟨v1,ev1⟩:∃z,Wo.numV a.data.toList 0 268435456=z:=⟨_,rfl⟩;obtain⟨v2,ev2⟩:∃z,Wo.numV b.data.toList 0 268435456=z:=⟨_,rfl⟩;rw[ek1,ev1]at NU1;rw[ek2,ev2]at NU2;rw[ek1,ek2,ev1,ev2];have HRD:=mh hR;clear h hE hz hx ek1 ek2 ev1 ev2 hR hl hn
 cases k1
 ·rw[if_neg (by simp)]
  show Calls _ _ _ _ (StE t 4 w)
  go_enter Tryz.func109,Tryz.ntmps109
  go_wp2_with (first|(go_at_call 79;(with_reducible refine cmo NU1.out ?_);rintro e w2 ⟨rfl,hb2⟩;have k2c:=(hb2.cell (p:=⟨B,Ox+2,none⟩) hBl).trans g2;have NV2:=mh (NU2.out _ hb2);have HB2:=mh hb2;clear hb2)|(go_at_call 79;(with_reducible refine cmo NV2.out ?_);rintro e w3 ⟨rfl,hb3⟩;have HB3:=mh (bstep mle HB2.out hb3);clear hb3))
  go_ret2
  exact StE.nil _ _ _ _ (HB3.out.mono (Nat.le_of_lt htl))
 cases k2
 ·rw[if_neg (by simp)]
  show Calls _ _ _ _ (StE t 4 w)
  go_enter Tryz.func109,Tryz.ntmps109
  go_wp2_with (first|(go_at_call 79;(with_reducible refine cmo NU1.out ?_);rintro e w2 ⟨rfl,hb2⟩;have k2c:=(hb2.cell (p:=⟨B,Ox+2,none⟩) hBl).trans g2;have NV2:=mh (NU2.out _ hb2);have HB2:=mh hb2;clear hb2)|(go_at_call 79;(with_reducible refine cmo NV2.out ?_);rintro e w3 ⟨rfl,hb3⟩;have HB3:=mh (bstep mle HB2.out hb3);clear hb3))
  go_ret2
  exact StE.nil _ _ _ _ (HB3.out.mono (Nat.le_of_lt htl))
 rw[if_pos ⟨rfl,rfl⟩]
 show Calls _ _ _ _ (StG 129 t (A ++ [{ s0 with br:=s0.br ++ [⟨v1,v2⟩] }]) last w)
 obtain⟨gg,cc,k0,hg1,hg2,hBD,⟨rr,hC, -⟩,hf⟩:=HRD.out.lastRow;obtain⟨bp,bc,c6,hOB,hNE,hNX⟩:=hBD.brackets rfl;have C6:=mh c6;have F6:=mh (hf (A.length*10+6));have K0:=mh k0;have HOB:=mh hOB;have HNX:=mh hNX;have hA1:A.length+1≤9223372036854775807:=by omega
 have NOW:=mh (fun (W:World) (hW:Below w.heap.size w W)=>now17_any t gg A.length cc W ((hW.cell (p:=⟨t,0,none⟩) htl).trans K0.out) hA1);obtain⟨bl,ebl⟩:∃l,s0.br.length=l:=⟨_,rfl⟩;rw[ebl]at C6 HOB HNX hbl hNE;have EBL:=mh ebl;have HNE:=mh hNE;clear hBD hC hf k0 c6 hOB hNX ebl hNE
 go_enter Tryz.func109,Tryz.ntmps109
 go_wp2_with (first
  | (go_at_call 79;(with_reducible refine cmo NU1.out ?_);rintro e w2 ⟨rfl,hb2⟩;have k2c:=(hb2.cell (p:=⟨B,Ox+2,none⟩) hBl).trans g2;have NV2:=mh (NU2.out _ hb2);have HB2:=mh hb2;clear hb2)
  | (go_at_call 79;(with_reducible refine cmo NV2.out ?_);rintro e w3 ⟨rfl,hb3⟩;have HB3:=mh (bstep mle HB2.out hb3);have NOW3:=mh (NOW.out w3 HB3.out);clear hb3)
  | (go_at_call 81;(with_reducible refine cmo NOW3.out ?_);rintro e w4 ⟨rfl,m4,hm4⟩;have HB4:=mh (show Below w.heap.size w w4 from hm4▸HB3.out.trans ((drewN_below _ _).mono HB3.out.size));have NOW4:=mh (NOW.out w4 HB4.out);clear hm4)
  | (go_at_call 81;(with_reducible refine cmo NOW4.out ?_);rintro e w5 ⟨rfl,m5,hm5⟩;have HB5:=mh (show Below w.heap.size w w5 from hm5▸HB4.out.trans ((drewN_below _ _).mono HB4.out.size));have c65:=(HB5.out.cell (p:=⟨gg,A.length*10+6,none⟩) hg2).trans C6.out;have A5:=mh (HB5.out.alloc HB5.out.size (.cells #[I O v1,I O v2] 54));have SRC:=mh (one_brk w5 ⟨v1,v2⟩);clear hm5)
  | (at_builtin;(refine OwnR.appendAll el_brk rfl (.tmp 45) (.tmp 49) rfl (t+1) (.slice bp bl bc) s0.br [⟨v1,v2⟩] (some ⟨w5.heap.size,0,none⟩) 1 1 rfl (HOB.out.below A5.out) SRC.out (fun h=>by cases h) rfl (by first|rfl|simp[Act.eval,Act.put]) (Nat.le_trans htl A5.out.size) (by have:=EBL.out;omega) (by decide) ?_);intro v7 w7 hO7 hap7;obtain⟨p7,cc7,rfl, -⟩:=hO7.cut (show(s0.br ++ [(⟨v1,v2⟩:Brk)]).length=bl+1 by rw[lap,EBL.out];rfl);have hgl5:=nll hg2 A5.out.size;have c67:=(hap7.cells hgl5 HNE.out (A.length*10+6)).trans ((A5.out.cell (p:=⟨gg,A.length*10+6,none⟩) hg2).trans C6.out);have f67:w7.frozen? ⟨gg,A.length*10+6,none⟩=false:=(show w7.frozen? ⟨gg,A.length*10+6,none⟩=_ from by simp only[World.frozen?,hap7.far gg hgl5 HNE.out]).trans ((A5.out.frozen (p:=⟨gg,A.length*10+6,none⟩) hg2).trans F6.out);have FB:=mh (show Below t w (w7.setCell ⟨gg,A.length*10+6,none⟩ (.slice p7 (bl+1) cc7)) from((A5.out.mono (Nat.le_of_lt htl)).trans (hap7.below.mono (Nat.le_succ t))).setCell (show t≤gg by omega) _);have FR:=mh (HRD.out.row2 K0.out (show(w7.setCell ⟨gg,A.length*10+6,none⟩ (.slice p7 (bl+1) cc7)).heap[t]?=w.heap[t]? from by rw[setCell_far _ (by omega),hap7.below.block t (Nat.lt_succ_self t),A5.out.block t htl]) (by rw[setCell_sz];exact nll htl (Nat.le_trans A5.out.size hap7.size)) (HNX.out _ w7 _ p7 (bl+1) cc7 ⟨v1,v2⟩ A5.out mle hO7 rfl hap7));clear hO7 hap7)
  | fail)
 go_ret2
 exact⟨rfl,FR.out,FB.out⟩
end Go.Proofs.YtbcmabolkkfgfaaGreatDoor
