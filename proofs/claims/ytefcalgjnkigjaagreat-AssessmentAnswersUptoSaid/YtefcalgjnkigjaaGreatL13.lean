/- Packed. -/
import Derived.Test.YtefcalgjnkigjaaGreatL11
import Derived.Test.YtefcalgjnkigjaaGreatL12
set_option maxRecDepth 100000
set_option maxHeartbeats 4000000
open Go.Value renaming int → I
open Go.IntKind renaming i64 → O
namespace Go.Proofs.YtefcalgjnkigjaaGreat
open Go.RowKit
theorem vVA (e u:Int)(p:Option Addr)(l:List Int)(cap:Nat)(w:World)(h:qR w p l)(hg:En.err e u l≠0) :
  Calls Tryz.prog 60 #[I O e,I O u,.slice p l.length cap] w (zK w (En.scale e u l) (En.err e u l)):=by
 have hs:En.scale e u l = []:=by unfold En.scale;rw[if_neg hg]
 rw[hs];have hc:=mh (xJA e u p l cap w h hg);clear h hs
 go_enter Tryz.func60,Tryz.ntmps60
 go_wp2_with (first|(go_at_call 94;refine(hc.out).mono ?_;rintro en w1 ⟨rfl,hb1⟩))
 go_ret2
 exact⟨none,0,rfl,qR.nil _ _,hb1.alloc hb1.size _,fun _ h=>by cases h⟩
theorem wG {t:Int}{zs:List Int}(he:shErr t zs=0):(∀x∈jD t zs,0≤x∧x≤t)∧(jD t zs).length=zs.length:=by
 have h1:¬64<zs.length:=fun h=>by unfold shErr at he;rw[if_pos h]at he;omega
 have h2:¬(Sh.limited t=false∨(zs.any fun x => !Sh.limited x)=true):=fun h=>by unfold shErr at he;rw[if_neg h1,if_pos h]at he;omega
 have ht:Sh.limited t=true:=by simpa using fun h=>h2 (.inl h)
 have hz:(zs.any fun x => !Sh.limited x)=false:=by simpa using fun h=>h2 (.inr h)
 have ht' := Sh.limited_iff.1 ht;unfold jD;rw[if_neg (by rw[he];simp)]
 split
 ·refine⟨fun x hx=>?_,by simp⟩
  rw[List.eq_of_mem_replicate hx];omega
 ·rename_i hs
  have hR:Sh.Right t zs:=nF ht hz hs;have h0:∀x∈Sh.shares t zs,0≤x:=fun x hx=>by
   obtain⟨i,_,rfl⟩:=List.mem_map.1 hx;exact(hR.share_bd i).1
  refine⟨fun x hx=>⟨h0 x hx,?_⟩,by unfold Sh.shares;simp⟩
  rw[← hR.total];exact Sh.le_sum h0 hx
theorem pJ {e u:Int}{l:List Int}(h:En.Good e u l):shErr (e / u) (En.units u l)=0:=by
 have h1:Sh.limited (e / u)=true:=Sh.limited_iff.2 ⟨Int.ediv_nonneg h.e0 (by have:=h.u0;omega),by have:=Int.ediv_le_self u h.e0;have:=h.e1;omega⟩;have h2:((En.units u l).any fun x => !Sh.limited x)=false:=by
  rw[List.any_eq_false];intro x hx;have:=h.unit x hx;rw[Sh.limited_iff.2 ⟨this.1,by omega⟩]
  simp
 unfold shErr;rw[if_neg (by rw[En.units_len];have:=h.len;omega),if_neg (by rw[h1,h2];simp)]
theorem zRA (t:Int)(p:Option Addr)(zs:List Int)(n cap:Nat)(w:World)(h:qR w p zs)(hn:zs.length=n)(he:shErr t zs=0) :
  Calls Tryz.prog 96 #[I O t,.slice p n cap] w (kE w (jD t zs) 0):=by subst hn;rw[← he];exact zSA t p zs cap w h
theorem zMA (e u:Int)(p:Option Addr)(l:List Int)(cap:Nat)(w:World)(h:qR w p l)(hg:En.err e u l=0) :
  Calls Tryz.prog 60 #[I O e,I O u,.slice p l.length cap] w (zK w (En.scale e u l) 0):=by
 have hG:=mh (En.good_of hg);have hc:=mh (jYA e u p l cap w h hG.out);have HL:=mh (@En.units_len u l);have HE:=mh (pJ hG.out);clear h
 by_cases hq:e / u<En.usum u l
 ·have hd:decide (e / u<En.usum u l)=true:=dqt hq
  go_enter Tryz.func60,Tryz.ntmps60
  go_wp2_with (first|(go_at_call 94;refine(hc.out).mono ?_;rintro en w1 ⟨q,c,rfl,hI,hb1⟩)|(go_at_call 95;refine(bL _ _ _ _).mono ?_;rintro en w2 ⟨rfl,hb2⟩;have hI2:=((hI.below ((brf _ _).alloc mle (Obj.cells #[I O (e / u),.slice q l.length c,I O (En.usum u l)] 160))).below hb2);have k0:=(hb2.cell (p:=⟨w1.heap.size,0,none⟩) (by simp)).trans (show _=some (Value.int .i64 (e / u)) by go_simp);have k1:=(hb2.cell (p:=⟨w1.heap.size,1,none⟩) (by simp)).trans (show _=some (Value.slice q l.length c) by go_simp))|(go_at_call 96;refine(zRA _ _ _ _ _ _ hI2 HL HE).mono ?_;rintro en w3 ⟨p3,c3,rfl,hI3,hb3⟩))
  have hsc:En.scale e u l=(jD (e / u) (En.units u l)).map fun x=>x*u:=by unfold En.scale En.paid;rw[if_pos hg,if_pos hq]
  have hzb:∀x∈jD (e / u) (En.units u l),0≤x∧x≤68719476736:=fun x hx=>by
   have h:=(wG HE).1 x hx;have:=Int.ediv_le_self u hG.out.e0;have:=hG.out.e1;omega
  have hzn:(jD (e / u) (En.units u l)).length≤64:=by rw[(wG HE.out).2,En.units_len];exact hG.out.len
  have hbel:Below w.heap.size w w3:=qH (qH (hb1.alloc hb1.size _) (by have:=hb1.size;simp;omega) hb2) (by have:=hb1.size;have:=hb2.size;simp at this;omega) hb3;have hIz:=hI3;have hsc:=mh hsc;clear hI2 hI hI3 hb1 hb2 hb3 k0 k1 HL HE hc hd hq hg;generalize jD (e / u) (En.units u l)=zs at *;obtain⟨wz,rfl⟩:∃wz:World,wz=w3:=⟨_,rfl⟩;obtain⟨i0,hi,hz0,hz1,hz2⟩:=info_parts yS;have HI:=mh (And.intro hi (And.intro hz0 (And.intro hz1 hz2)));clear hi hz0 hz1 hz2;have u1:=hG.out.u1;have u0:=hG.out.u0;have BEL:=mh hbel;have HZ:=mh hIz;have ZB:=mh hzb;have hzl:=hIz.len;clear hbel hIz hzb
  go_loopw [41,11] (fun i v wr=>∃k:Nat,k≤zs.length∧i=I O k∧Own wr 3 wz.heap.size v ((zs.take k).map fun x=>x*u)∧Below wz.heap.size wz wr) (fun i _ _=>zs.length - (intOf i).toNat)
  case atStart=>exact⟨0,Nat.zero_le _,rfl,Own.nil _ _ _,brf _ _⟩
  case round =>
   obtain⟨k,hk,rfl,hown,hbw⟩:=hrel;have HO:=mh hown;have HB:=mh hbw;have hsz:=hbw.size
   by_cases hlt:k<zs.length
   ·obtain⟨b,off,x,rfl,hbl,hcell0,hx⟩:=HZ.get hlt
    have hcell:=(hbw.cell (p:=⟨b,off+k,none⟩) hbl).trans hcell0;have hst:=mh (En.take_snoc hlt);have hxb:0≤x∧x≤68719476736:=by
     rw[← hx.out,List.getD_eq_getElem?_getD,List.getElem?_eq_getElem hlt];exact ZB _ (List.getElem_mem hlt)
    have hm0:0≤x*u:=Int.mul_nonneg hxb.1 (by omega);have hm1:x*u≤68719476736*100000:=Int.mul_le_mul hxb.2 u1 (by omega) (by omega);have hmw:IntKind.i64.wrap (x*u)=x*u:=by
     generalize x*u=y at hm0 hm1 ⊢;rw[IntKind.wrap_i64];omega
    clear hown hbw hcell0
    go_wp2_with (first|(at_builtin;(refine Own.append HI.1 HI.2.1 HI.2.2.1 HI.2.2.2 Tryz.underlying22 rfl (.tmp 45) (.tmp 49) rfl wz.heap.size _ _ _ HO rfl rfl (by omega) (by rw[List.length_map,List.length_take];omega) ?_);intro v1 w5 hown1 hb5))
    have HO5:=mh hown1;have HB5:=mh (HB.trans hb5);clear hown1 hb5
    go_roundw
    case rel=>exact⟨k+1,by omega,by go_num,by rw[hst.out,hx.out];simpa using HO5.out,HB5.out⟩
    case measure=>simp[intOf];omega
   ·obtain rfl:k=zs.length:=by omega
    rw[List.take_length]at HO;obtain⟨p4,c4,rfl,hI4,hn4⟩:=HO.intsN;have HI4:=mh hI4;have HN4:=mh hn4;clear hI4 hn4 hown hbw hlt hk
    go_wp2
    go_ret2
    exact⟨p4,c4,by rw[hsc.out];simp,by rw[hsc.out];exact HI4.out,qH BEL BEL.size HB.out,fun a h=>Nat.le_trans BEL.size (HN4 a h)⟩
 ·have hd:decide (e / u<En.usum u l)=false:=dqf hq
  go_enter Tryz.func60,Tryz.ntmps60
  go_wp2_with (first|(go_at_call 94;refine(hc.out).mono ?_;rintro en w1 ⟨q,c,rfl,hI,hb1⟩)|(go_at_call 95;refine(bL _ _ _ _).mono ?_;rintro en w2 ⟨rfl,hb2⟩;have hI2:=((hI.below ((brf _ _).alloc mle (Obj.cells #[I O (e / u),.slice q l.length c,I O (En.usum u l)] 160))).below hb2);have k0:=(hb2.cell (p:=⟨w1.heap.size,0,none⟩) (by simp)).trans (show _=some (Value.int .i64 (e / u)) by go_simp);have k1:=(hb2.cell (p:=⟨w1.heap.size,1,none⟩) (by simp)).trans (show _=some (Value.slice q l.length c) by go_simp)))
  rw[← HL.out];have hsc:=mh (show En.scale e u l=(En.units u l).map fun x=>x*u by unfold En.scale En.paid;rw[if_pos hg,if_neg (by omega)]);have hzb:∀x∈En.units u l,0≤x∧x≤68719476736:=hG.out.unit;have hzn:(En.units u l).length≤64:=by rw[En.units_len];exact hG.out.len
  have hbel:Below w.heap.size w w2:=qH (hb1.alloc hb1.size _) (by have:=hb1.size;simp;omega) hb2;have hIz:=hI2;clear hI2 hI hb1 hb2 k0 k1 HL HE hc hd hq hg;generalize En.units u l=zs at *;obtain⟨wz,rfl⟩:∃wz:World,wz=w2:=⟨_,rfl⟩;obtain⟨i0,hi,hz0,hz1,hz2⟩:=info_parts yS;have HI:=mh (And.intro hi (And.intro hz0 (And.intro hz1 hz2)));clear hi hz0 hz1 hz2;have u1:=hG.out.u1;have u0:=hG.out.u0;have BEL:=mh hbel;have HZ:=mh hIz;have ZB:=mh hzb;have hzl:=hIz.len;clear hbel hIz hzb
  go_loopw [41,11] (fun i v wr=>∃k:Nat,k≤zs.length∧i=I O k∧Own wr 3 wz.heap.size v ((zs.take k).map fun x=>x*u)∧Below wz.heap.size wz wr) (fun i _ _=>zs.length - (intOf i).toNat)
  case atStart=>exact⟨0,Nat.zero_le _,rfl,Own.nil _ _ _,brf _ _⟩
  case round =>
   obtain⟨k,hk,rfl,hown,hbw⟩:=hrel;have HO:=mh hown;have HB:=mh hbw;have hsz:=hbw.size
   by_cases hlt:k<zs.length
   ·obtain⟨b,off,x,rfl,hbl,hcell0,hx⟩:=HZ.get hlt
    have hcell:=(hbw.cell (p:=⟨b,off+k,none⟩) hbl).trans hcell0;have hst:=mh (En.take_snoc hlt);have hxb:0≤x∧x≤68719476736:=by
     rw[← hx.out,List.getD_eq_getElem?_getD,List.getElem?_eq_getElem hlt];exact ZB _ (List.getElem_mem hlt)
    have hm0:0≤x*u:=Int.mul_nonneg hxb.1 (by omega);have hm1:x*u≤68719476736*100000:=Int.mul_le_mul hxb.2 u1 (by omega) (by omega);have hmw:IntKind.i64.wrap (x*u)=x*u:=by
     generalize x*u=y at hm0 hm1 ⊢;rw[IntKind.wrap_i64];omega
    clear hown hbw hcell0
    go_wp2_with (first|(at_builtin;(refine Own.append HI.1 HI.2.1 HI.2.2.1 HI.2.2.2 Tryz.underlying22 rfl (.tmp 45) (.tmp 49) rfl wz.heap.size _ _ _ HO rfl rfl (by omega) (by rw[List.length_map,List.length_take];omega) ?_);intro v1 w5 hown1 hb5))
    have HO5:=mh hown1;have HB5:=mh (HB.trans hb5);clear hown1 hb5
    go_roundw
    case rel=>exact⟨k+1,by omega,by go_num,by rw[hst.out,hx.out];simpa using HO5.out,HB5.out⟩
    case measure=>simp[intOf];omega
   ·obtain rfl:k=zs.length:=by omega
    rw[List.take_length]at HO;obtain⟨p4,c4,rfl,hI4,hn4⟩:=HO.intsN;have HI4:=mh hI4;have HN4:=mh hn4;clear hI4 hn4 hown hbw hlt hk
    go_wp2
    go_ret2
    exact⟨p4,c4,by rw[hsc.out];simp,by rw[hsc.out];exact HI4.out,qH BEL BEL.size HB.out,fun a h=>Nat.le_trans BEL.size (HN4 a h)⟩
end Go.Proofs.YtefcalgjnkigjaaGreat
namespace Go.Proofs.YtefcalgjnkigjaaGreat.En
variable {e u:Int} {l:List Int}
theorem Good.right (h:Good e u l)(hq:e / u<En.usum u l):Sh.Right (e / u) (units u l)∧jD (e / u) (units u l)=Sh.shares (e / u) (units u l):=by
 have hE:=pJ h;have e0:0≤e / u:=Int.ediv_nonneg h.e0 (by have:=h.u0;omega);have hs:Sh.sum (units u l)≠0:=by unfold En.usum at hq;omega
 have h1:¬64<(units u l).length:=by rw[units_len];have:=h.len;omega
 have h2:¬(Sh.limited (e / u)=false∨((units u l).any fun x => !Sh.limited x)=true):=fun hh=>by unfold shErr at hE;rw[if_neg h1,if_pos hh]at hE;omega
 refine⟨nF (by simpa using fun h=>h2 (.inl h)) (by simpa using fun h=>h2 (.inr h)) hs,?_⟩
 unfold jD;rw[if_neg (by rw[hE];simp),if_neg hs]
theorem Good.paid_scaled (h:Good e u l)(hq:e / u<En.usum u l):paid e u l=Sh.shares (e / u) (units u l):=by
 unfold paid;rw[if_pos hq];exact(h.right hq).2
theorem kN (hq:¬e / u<En.usum u l):paid e u l=units u l:=by unfold paid;rw[if_neg hq]
theorem xA (i:Nat)(hi:i<l.length):(units u l).getD i 0=l.getD i 0 / u:=by
 unfold units;simp[List.getD_eq_getElem?_getD,hi]
theorem Good.paid_len (h:Good e u l):(paid e u l).length=l.length:=by
 by_cases hq:e / u<En.usum u l
 ·rw[h.paid_scaled hq];unfold Sh.shares;simp[units_len]
 ·rw[kN hq,units_len]
theorem Good.scale_eq (h:Good e u l):scale e u l=(paid e u l).map fun x=>x*u:=by unfold scale;rw[if_pos (err_of h)]
theorem Good.scale_len (h:Good e u l):(scale e u l).length=l.length:=by rw[h.scale_eq,List.length_map,h.paid_len]
theorem Good.scale_getD (h:Good e u l)(i:Nat)(hi:i<l.length):(scale e u l).getD i 0=(paid e u l).getD i 0*u:=by
 have hl:=h.paid_len;rw[h.scale_eq]
 simp[List.getD_eq_getElem?_getD,hl,hi]
theorem Good.at (h:Good e u l)(i:Nat)(hi:i<l.length):0≤l.getD i 0∧l.getD i 0≤68719476736:=by
 rw[List.getD_eq_getElem?_getD,List.getElem?_eq_getElem hi];exact h.all _ (List.getElem_mem hi)
theorem Good.paid_bd (h:Good e u l)(i:Nat)(hi:i<l.length):0≤(paid e u l).getD i 0∧(paid e u l).getD i 0≤l.getD i 0 / u:=by
 have hu:=h.unit
 by_cases hq:e / u<En.usum u l
 ·have hR:=(h.right hq).1
  rw[h.paid_scaled hq,Sh.shares_getD _ _ _ (by rw[units_len];exact hi),← xA i hi];exact⟨(hR.share_bd i).1,hR.share_le hq (by rw[units_len];exact hi)⟩
 ·rw[kN hq,xA i hi]
  exact⟨Int.ediv_nonneg (h.at i hi).1 (by have:=h.u0;omega),Int.le_refl _⟩
theorem Good.paid_mono (h:Good e u l)(i k:Nat)(hi:i<l.length)(hk:k<l.length)(hlt:l.getD k 0 / u<l.getD i 0 / u):(paid e u l).getD k 0≤(paid e u l).getD i 0:=by
 by_cases hq:e / u<En.usum u l
 ·have hR:=(h.right hq).1
  rw[h.paid_scaled hq,Sh.shares_getD _ _ i (by rw[units_len];exact hi),Sh.shares_getD _ _ k (by rw[units_len];exact hk)];exact hR.share_mono (by rw[units_len];exact hk) (by rw[units_len];exact hi) (by rw[xA k hk,xA i hi];exact hlt)
 ·rw[kN hq,xA i hi,xA k hk];omega
theorem Good.paid_sum (h:Good e u l):Sh.sum (paid e u l)≤e / u∧(e / u<En.usum u l→Sh.sum (paid e u l)=e / u)∧(¬e / u<En.usum u l→Sh.sum (paid e u l)=En.usum u l):=by
 by_cases hq:e / u<En.usum u l
 ·have hR:=(h.right hq).1
  rw[h.paid_scaled hq,hR.total];exact⟨Int.le_refl _,fun _=>rfl,fun hn=>absurd hq hn⟩
 ·rw[kN hq]
  exact⟨by unfold En.usum at hq;omega,fun hn=>absurd hn hq,fun _=>rfl⟩
theorem Good.scale_sum (h:Good e u l):Sh.sum (scale e u l)=u*Sh.sum (paid e u l):=by
 have e1:=Sh.sum_map_mul u (fun x=>x) (paid e u l);rw[List.map_id']at e1;rw[h.scale_eq,← e1]
 congr 1
 apply List.map_congr_left
 intro x _;exact Int.mul_comm _ _
structure Keeps (e u:Int) (l s:List Int):Prop where
 len:s.length=l.length
 at_:∀i,i<l.length→0≤s.getD i 0∧s.getD i 0≤l.getD i 0∧s.getD i 0 % u=0
 mono:∀i k,i<l.length→k<l.length→l.getD k 0 / u<l.getD i 0 / u→s.getD k 0≤s.getD i 0
 sum:Sh.sum s≤e
 near:scaled e u l=true→e - Sh.sum s<u
theorem Good.keeps (h:Good e u l):Keeps e u l (scale e u l):=by
 have u0:=h.u0;have hs:=h.paid_sum;have hd:=Int.emod_add_mul_ediv e u;have r0:=Int.emod_nonneg e (show u≠0 by omega);have r1:=Int.emod_lt_of_pos e (show 0<u by omega);refine⟨h.scale_len,fun i hi=>?_,fun i k hi hk hlt=>?_,?_,fun hsc=>?_⟩
 ·have hb:=h.paid_bd i hi
  have ha:=h.at i hi;rw[h.scale_getD i hi];refine⟨Int.mul_nonneg hb.1 (by omega),?_,Int.mul_emod_left _ _⟩;have h1:(paid e u l).getD i 0*u≤l.getD i 0 / u*u:=Int.mul_le_mul_of_nonneg_right hb.2 (by omega);have h2:=Int.ediv_mul_le (l.getD i 0) (show u≠0 by omega);omega
 ·rw[h.scale_getD i hi,h.scale_getD k hk]
  exact Int.mul_le_mul_of_nonneg_right (h.paid_mono i k hi hk hlt) (by omega)
 ·rw[h.scale_sum]
  have:u*Sh.sum (paid e u l)≤u*(e / u):=Int.mul_le_mul_of_nonneg_left hs.1 (by omega);omega
 ·have hq:e / u<En.usum u l:=by
   unfold scaled at hsc;simp only[Bool.and_eq_true,decide_eq_true_eq]at hsc;exact hsc.2
  rw[h.scale_sum,hs.2.1 hq];omega
end Go.Proofs.YtefcalgjnkigjaaGreat.En
namespace Go.Proofs.YtefcalgjnkigjaaGreat.As
open Sc Go.RowKit
theorem jZA {L:List Sch}(h:(jU L).2=0):jU L=(-1,0):=by
 unfold jU at h ⊢
 by_cases h16:16<L.length
 ·rw[if_pos h16]at h;cases h
 rw[if_neg h16]at h ⊢
 cases hA:fst (xX L) L.length with
 | some i =>
   rw[hA]at h;have:=List.find?_some (show((List.range L.length).find? fun i=>xX L i != 0)=some i from hA);simp only[bne_iff_ne]at this;exact absurd h this
 | none =>
   rw[hA]at h;simp only at h ⊢
   cases hB:fst (uY L) L.length with
   | some i=>rw[hB]at h;cases h
   | none=>rfl
theorem tE {l:YLaw}(h:kG l=0):YOk l:=by
 unfold kG at h
 by_cases h1:l.sch.length=0
 ·rw[if_pos h1]at h;omega
 rw[if_neg h1]at h
 by_cases h2:(jU l.sch).2≠0
 ·rw[if_pos h2]at h;exact absurd h h2
 rw[if_neg h2]at h
 by_cases h3:Re.chk l.steps≠0
 ·rw[if_pos h3]at h;exact absurd h h3
 rw[if_neg h3]at h
 by_cases h4:chkL l.late≠0
 ·rw[if_pos h4]at h;exact absurd h h4
 rw[if_neg h4]at h
 by_cases h5:Ce.chk l.deg≠0
 ·rw[if_pos h5]at h;exact absurd h h5
 rw[if_neg h5]at h
 by_cases h6:En.money l.cap=false∨En.money l.env=false
 ·rw[if_pos h6]at h;omega
 rw[if_neg h6]at h
 by_cases h7:l.unit<1∨100000<l.unit∨l.width<0∨200<l.width
 ·rw[if_pos h7]at h;omega
 have m:∀n,¬En.money n=false→0≤n∧n≤68719476736:=fun n hn=>En.money_iff.1 (by simpa using hn)
 exact⟨h1,jZA (by omega),Re.chk_zero.1 (by omega),latOk (by omega),Ce.chk_zero.1 (by omega),m _ fun e=>h6 (.inl e),m _ fun e=>h6 (.inr e),by omega,by omega⟩
structure vX (l:YLaw) (x:LineF):Prop where
 bits:bits BinOp.andNot IntKind.i64 x.sch (allV l.sch)=0
 len:x.due.length=l.sch.length
 d0:0≤x.decl
 d1:x.decl≤268435456
 fact:∀k s,l.sch[k]?=some s→zW x s=true→chk28 (factOf x k) l.width=0
 no:∀k s,l.sch[k]?=some s→zW x s=false→x.due.getD k 0=0
theorem dL {l:YLaw}{x:LineF}:zJ l x=true↔vX l x:=by
 unfold zJ;simp only[Bool.and_eq_true,decide_eq_true_eq,List.all_eq_true,List.mem_range]
 constructor
 ·rintro ⟨h1,h2,h3,h4,h5⟩
  refine⟨h1,h2,h3,h4,fun k s e hn=>?_,fun k s e hn=>?_⟩
  all_goals
   have:=h5 k (List.getElem?_eq_some_iff.1 e).1;unfold wR at this;rw[e]at this;simp only[hn,if_true,if_false,Bool.false_eq_true,decide_eq_true_eq]at this;exact this
 ·intro h
  refine⟨h.bits,h.len,h.d0,h.d1,fun k hk=>?_⟩
  unfold wR;rw[List.getElem?_eq_getElem hk];simp only
  cases hn:zW x l.sch[k] with
  | true=>simp only[if_true,decide_eq_true_eq];exact h.fact k _ (List.getElem?_eq_getElem hk) hn
  | false=>simp only[Bool.false_eq_true,if_false,decide_eq_true_eq];exact h.no k _ (List.getElem?_eq_getElem hk) hn
structure vP (l:YLaw) (f:FarmF):Prop where
 f0:1≤f.farm
 f1:f.farm≤60
 d0:0≤f.day
 d1:f.day≤36864
 len:f.lines.length≤20
 line:∀x∈f.lines,vX l x
 sum:jZ f.lines≤268435456
theorem kUA {l:YLaw}{f:FarmF}:yB l f=true↔vP l f:=by
 unfold yB;simp only[Bool.and_eq_true,decide_eq_true_eq,List.all_eq_true]
 constructor
 ·rintro ⟨h1,h2,h3,h4,h5,h6,h7⟩
  exact⟨h1,h2,h3,h4,h5,fun x hx=>dL.1 (h6 x hx),h7⟩
 ·intro h
  exact⟨h.f0,h.f1,h.d0,h.d1,h.len,fun x hx=>dL.2 (h.line x hx),h.sum⟩
structure FOk (l:YLaw) (F:List FarmF):Prop where
 law:YOk l
 len:F.length≤10
 farm:∀f∈F,vP l f
 asc:∀i (h:i+1<F.length),F[i].farm<F[i+1].farm
theorem fOk {l:YLaw}{F:List FarmF}(h:xG l F=0):FOk l F:=by
 unfold xG at h
 by_cases h1:kG l≠0
 ·rw[if_pos h1]at h;exact absurd h h1
 rw[if_neg h1]at h
 by_cases h2:10<F.length
 ·rw[if_pos h2]at h;omega
 rw[if_neg h2]at h
 by_cases h3:(List.range F.length).all (zQ l F)=true
 ·have at_:∀i (hi:i<F.length),zQ l F i=true:=fun i hi=>List.all_eq_true.1 h3 i (List.mem_range.2 hi)
  refine⟨tE (by omega),by omega,fun f hf=>?_,fun i hi=>?_⟩
  ·obtain⟨i,hi,rfl⟩:=List.mem_iff_getElem.1 hf
   have:=at_ i hi;unfold zQ at this;rw[List.getElem?_eq_getElem hi]at this;simp only[Bool.and_eq_true]at this;exact kUA.1 this.1
  ·have:=at_ (i+1) hi
   unfold zQ at this;rw[List.getElem?_eq_getElem hi]at this;simp only[Bool.and_eq_true]at this;have h4:=this.2;rw[List.getElem?_eq_getElem (by omega)]at h4
   simpa using h4
 ·rw[if_neg h3]at h;omega
theorem YOk.chk {l:YLaw}(h:YOk l):kG l=0:=by
 have m:∀n:Int,0≤n∧n≤68719476736→¬En.money n=false:=fun n hn e=>by rw[En.money_iff.2 hn]at e;cases e
 have hl:=h.late;have h1:=hl.d0;have h2:=hl.d1;have h3:=hl.d2;have h4:=hl.m0;have h5:=hl.m1;have h6:=h.unit;have h7:=h.width;unfold kG
 rw[if_neg h.ne,if_neg (by rw[h.sch];decide),if_neg (by rw[Re.chk_zero.2 h.steps];decide),if_neg (by unfold chkL;rw[if_neg (by omega)];decide),if_neg (by rw[Ce.chk_zero.2 h.deg];decide),
  if_neg fun e=>e.elim (m _ h.cap) (m _ h.env),if_neg (by omega)]
theorem FOk.chk {l:YLaw}{F:List FarmF}(h:FOk l F):xG l F=0:=by
 unfold xG;have h2:=h.len;rw[if_neg (by rw[h.law.chk];decide),if_neg (by omega),if_pos];rw[List.all_eq_true];intro i hi;have hi:=List.mem_range.1 hi;unfold zQ;rw[List.getElem?_eq_getElem hi];simp only[Bool.and_eq_true];refine⟨kUA.2 (h.farm _ (List.getElem_mem hi)),?_⟩
 cases i with
 | zero=>rfl
 | succ k =>
   simp only;rw[List.getElem?_eq_getElem (by omega)]
   simpa using h.asc k hi
theorem FOk.one {l:YLaw}{F:List FarmF}(h:FOk l F){f:FarmF}(hf:f∈F):FOk l [f] :=
 ⟨h.law,by simp,fun g hg=>by rw[List.mem_singleton.1 hg];exact h.farm f hf,fun i hi=>by simp at hi⟩
/-! ### sums -/
section sums
variable {l:YLaw} {k:Nat} {s:Sch} {K:List LineF}
theorem dW (h:∀x∈K,0≤x.decl):0≤yQ s K∧yQ s K≤jZ K:=by
 unfold yQ jZ;refine⟨Sh.sum_nonneg fun y hy=>?_,Sh.sum_map_le fun x hx=>?_⟩
 ·obtain⟨x,hx,rfl⟩:=List.mem_map.1 hy
  have:=h x hx
  split<;>omega
 ·have:=h x hx
  split<;>omega
theorem eQ (hl:YOk l)(hx:∀x∈K,vX l x)(hk:l.sch[k]?=some s){x:LineF}(h:x∈K)(hn:zW x s=true) :
  0≤(det (factOf x k) l.width).1∧(det (factOf x k) l.width).1≤x.decl∧((det (factOf x k) l.width).2=0↔(det (factOf x k) l.width).1=x.decl):=by
 have f:=(chk28_zero ((hx x h).fact k s hk hn)).1.det hl.width.1 hl.width.2;exact⟨f.1,f.2.1,f.2.2.1⟩
theorem dG (hl:YOk l)(hx:∀x∈K,vX l x)(hk:l.sch[k]?=some s):0≤yY l k s K∧yY l k s K≤yQ s K:=by
 unfold yY yQ;refine⟨Sh.sum_nonneg fun y hy=>?_,Sh.sum_map_le fun x h=>?_⟩
 ·obtain⟨x,h,rfl⟩:=List.mem_map.1 hy
  split
  ·rename_i hn;exact(eQ hl hx hk h hn).1
  ·omega
 ·split
  ·rename_i hn;exact(eQ hl hx hk h hn).2.1
  ·omega
end sums
/-! ### one uF -/
structure AwOk (a:Awd):Prop where
 n0:0≤a.det
 nd:a.det≤a.decl
 d1:a.decl≤268435456
 p0:0≤a.paid
 pn:a.paid≤a.det
 r0:0≤a.rated
 r1:a.rated≤68719476736
 t0:0≤a.timely
 tr:a.timely≤a.rated
theorem YOk.one {l:YLaw}(h:YOk l){k:Nat}{s:Sch}(hk:l.sch[k]?=some s):zY s=0:=by
 obtain⟨hk', rfl⟩:=List.getElem?_eq_some_iff.1 hk;exact(wD h.sch).one _ (List.getElem_mem hk')
theorem bJ {l:YLaw}(hl:YOk l)(s:Sch){d n:Int}(n0:0≤n)(nd:n≤d)(d1:d≤268435456):0≤zA l s d n∧zA l s d n≤n:=by
 unfold zA
 split
 ·have e:Re.paidErr l.steps d n=0:=by
   unfold Re.paidErr;rw[if_neg (by rw[Re.chk_zero.2 hl.steps];decide),if_neg];rintro (e|e)
   ·rw[Re.area_iff.2 ⟨by omega,d1⟩]at e;cases e
   ·rw[Re.area_iff.2 ⟨n0,by omega⟩]at e;cases e
  unfold Re.paidVal;rw[if_neg (by omega)];have:=hl.steps.paid_bd (d:=d) (f:=n) (by omega) n0;omega
 ·omega
theorem kQA {l:YLaw}{f:FarmF}(hl:YOk l)(hf:vP l f){k:Nat}{s:Sch}(hk:l.sch[k]?=some s)(amt0:∀p,0≤p→p≤268435456→0≤uK s p):AwOk (uF l f k s):=by
 have b1:=dW (s:=s) fun x hx=>(hf.line x hx).d0
 have b2:=dG hl hf.line hk;have b3:=hf.sum;have b4:=bJ hl s b2.1 b2.2 (by omega);have b5:=amt0 _ b4.1 (by omega);have r0:0≤zL s (zA l s (yQ s f.lines) (yY l k s f.lines)):=by unfold zL;omega
 have r1:zL s (zA l s (yQ s f.lines) (yY l k s f.lines))≤68719476736:=by unfold zL;omega
 have t:=hl.late.left f.day r0;exact⟨b2.1,b2.2,by show yQ s f.lines≤_;omega,b4.1,b4.2,r0,r1,t.1,t.2⟩
theorem bC {l:YLaw}{f:FarmF}{n:Nat}{a:Awd}:a∈qW l f n↔∃k s,k<n∧l.sch[k]?=some s∧kM s f.lines=true∧a=uF l f k s:=by
 induction n with
 | zero=>simp[qW]
 | succ n ih =>
   unfold qW fV;rw[List.mem_append,ih]
   constructor
   ·rintro (⟨k,s,h1,h2,h3,h4⟩|h)
    ·exact⟨k,s,by omega,h2,h3,h4⟩
    ·cases e:l.sch[n]? with
     | none=>rw[e]at h;simp at h
     | some s =>
       rw[e]at h;simp only at h
       split at h
       ·rename_i hs
        exact⟨n,s,by omega,e,hs,List.mem_singleton.1 h⟩
       ·simp at h
   ·rintro ⟨k,s,h1,h2,h3,h4⟩
    by_cases hk:k<n
    ·exact .inl ⟨k,s,hk,h2,h3,h4⟩
    ·obtain rfl:k=n:=by omega
     right
     rw[h2];simp only[h3,if_true];exact List.mem_singleton.2 h4
theorem uN (l:YLaw)(f:FarmF)(n:Nat):(qW l f n).length≤n:=by
 induction n with
 | zero=>simp[qW]
 | succ n ih =>
   unfold qW;rw[lap];have:(fV l f n).length≤1:=by
    unfold fV
    split
    ·split<;>simp
    ·simp
   omega
theorem lV {l:YLaw}(hl:YOk l)(f:FarmF)(n:Nat):(qW l f n).Pairwise fun a b=>a.scheme<b.scheme:=by
 induction n with
 | zero=>simp[qW]
 | succ n ih =>
   unfold qW;rw[List.pairwise_append];unfold fV;refine⟨ih,?_,fun a ha b hb=>?_⟩
   ·split
    ·split<;>simp
    ·simp
   ·cases e:l.sch[n]? with
    | none=>rw[e]at hb;simp at hb
    | some s =>
      rw[e]at hb;simp only at hb
      split at hb
      ·obtain⟨k,s', h1,h2,h3,rfl⟩:=bC.1 ha
       rw[List.mem_singleton.1 hb];obtain⟨hn,rfl⟩:=List.getElem?_eq_some_iff.1 e;obtain⟨hk,rfl⟩:=List.getElem?_eq_some_iff.1 h2;exact(wD hl.sch).asc k n hk hn h1
      ·simp at hb
end Go.Proofs.YtefcalgjnkigjaaGreat.As
