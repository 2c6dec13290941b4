/- Packed. -/
import Derived.Test.YtefcalgjnkigjaaGreatL27
set_option maxRecDepth 100000
set_option maxHeartbeats 4000000
open Go.Value renaming int → I
open Go.IntKind renaming i64 → O
namespace Go.Proofs.YtefcalgjnkigjaaGreat
open Go.RowKit
theorem xGA {D:List (Int × Int)}{m:Int}{xs:List Int}(c:Ce.chk D=0)(hm:En.money m=true)(h16:xs.length≤16):Ce.farmErr D m xs=Ce.sumErr xs:=by
 unfold Ce.farmErr;rw[if_neg (by rw[c];simp),if_neg (by rw[hm];simp),if_neg (by omega)]
theorem qUA (p:Option Addr)(D:List (Int × Int))(cap:Nat)(m:Int)(q:Option Addr)(xs:List Int)(capx:Nat)(w:World)(hP:jF w p D)(hI:qR w q xs) :
  Calls Tryz.prog 66 #[.slice p D.length cap,I O m,.slice q xs.length capx] w (zK w (Ce.farm D m xs) (Ce.farmErr D m xs)):=by
 have hc:=gP p D cap w hP;have hlen:=hI.len
 rcases (show(Ce.chk D=66∧Ce.farmErr D m xs=66)∨(Ce.chk D=0∧En.money m=false∧Ce.farmErr D m xs=67)∨(Ce.chk D=0∧En.money m=true∧16<xs.length∧Ce.farmErr D m xs=1)∨(Ce.chk D=0∧En.money m=true∧xs.length≤16) by
  rcases mK D m xs with⟨_,c,e⟩|⟨c,hm,e⟩|⟨c,hm,h16,e⟩|⟨c,hm,h16,hs,e⟩|⟨c,hm,hF⟩
  ·exact .inl ⟨c,e⟩
  ·exact .inr (.inl ⟨c,hm,e⟩)
  ·exact .inr (.inr (.inl ⟨c,hm,h16,e⟩))
  ·exact .inr (.inr (.inr ⟨c,hm,h16⟩))
  ·exact .inr (.inr (.inr ⟨c,hm,hF.len⟩))) with⟨c,e⟩|⟨c,hm,e⟩|⟨c,hm,h16,e⟩|⟨c,hm,h16⟩
 ·rw[c]at hc
  rw[e,xH e (by decide)];have HC:=mh hc;clear hP hI hc c e
  go_enter Tryz.func66,Tryz.ntmps66
  go_wp2_with (first|(go_at_call 55;refine(HC.out).mono ?_;rintro e w1 ⟨rfl,n0,rfl⟩))
  go_ret2
  exact⟨none,0,rfl,qR.nil _ _,qQ _ _,fun _ h=>by cases h⟩
 ·rw[c]at hc
  rw[e,xH e (by decide)];have HC:=mh hc;clear hP hI hc c e
  go_enter Tryz.func66,Tryz.ntmps66
  go_wp2_with (first|(go_at_call 55;refine(HC.out).mono ?_;rintro e w1 ⟨rfl,n0,rfl⟩)|(go_at_call 56;refine(qL _ _).mono ?_;rintro e w' ⟨rfl,rfl⟩))
  go_ret2
  exact⟨none,0,rfl,qR.nil _ _,qQ _ _,fun _ h=>by cases h⟩
 ·rw[c]at hc
  rw[e,xH e (by decide)];have HC:=mh hc;clear hP hI hc c e
  go_enter Tryz.func66,Tryz.ntmps66
  go_wp2_with (first|(go_at_call 55;refine(HC.out).mono ?_;rintro e w1 ⟨rfl,n0,rfl⟩)|(go_at_call 56;refine(qL _ _).mono ?_;rintro e w' ⟨rfl,rfl⟩))
  go_ret2
  exact⟨none,0,rfl,qR.nil _ _,qQ _ _,fun _ h=>by cases h⟩
 ·rw[c]at hc
  have HE:=mh (xGA c hm h16);have HC:=mh hc;have H:=mh hI;have HP:=mh hP;have C:=mh (And.intro c hm);clear hP hI hc c
  go_enter Tryz.func66,Tryz.ntmps66
  go_wp2_with (first|(go_at_call 55;refine(HC.out).mono ?_;rintro e w1 ⟨rfl,n0,rfl⟩)|(go_at_call 56;refine(qL _ _).mono ?_;rintro e w' ⟨rfl,rfl⟩))
  obtain⟨wz,hwz⟩:∃wz,wz=w.drewN n0:=⟨_,rfl⟩;rw[← hwz];have HIZ:=mh (show qR wz q xs by rw[hwz];exact H.out);have HPZ:=mh (show jF wz p D by rw[hwz];exact HP.out);have HB:=mh (show Below w.heap.size w wz by rw[hwz];exact qQ _ _);clear hwz HC H HP
  go_loop [10,9] (fun i s=>∃k:Nat,k≤xs.length∧i=I O k∧s=I O (Sh.sum (xs.take k))∧∀j,j<k→En.money (xs.getD j 0)=true) (fun i _=>xs.length - (intOf i).toNat)
  case atStart=>exact⟨0,Nat.zero_le _,rfl,by simp[Sh.sum],fun j hj=>absurd hj (Nat.not_lt_zero j)⟩
  case round =>
   obtain⟨k,hk,rfl,rfl,hok⟩:=hrel;have HOK:=mh hok;have hs:=yMA hk h16 hok;clear hok
   by_cases hlt:k<xs.length
   ·obtain⟨b,off,x,rfl,hbl,hcell,hx⟩:=HIZ.get hlt
    by_cases hmx:En.money x=true
    ·have mx:=En.money_iff.1 hmx
     have hst:=mh (zG hlt);have hok' : ∀j,j<k+1→En.money (xs.getD j 0)=true:=fun j hj=>by
      by_cases e:j=k
      ·rw[e,hx.out];exact hmx
      ·exact HOK.out j (by omega)
     have HOK' := mh hok'; clear hok'
     go_wp2_with (first|(go_at_call 56;refine(qL _ _).mono ?_;rintro e w' ⟨rfl,rfl⟩))
     go_round
     case rel=>exact⟨k+1,by omega,by go_num,by rw[hst.out,hx.out],HOK'.out⟩
     case measure=>simp[intOf];omega
    ·have hm' : En.money x=false:=by simpa using hmx
     have he:=pQ hlt hx.out hm'; have hef:=HE.trans he;have HEF:=mh (And.intro hef (xH hef (by decide)));clear he hef hmx
     go_wp2_with (first|(go_at_call 56;refine(qL _ _).mono ?_;rintro e w' ⟨rfl,rfl⟩))
     go_ret2
     exact⟨none,0,by rw[HEF.out.1,HEF.out.2];rfl,by rw[HEF.out.2];exact qR.nil _ _,HB.out,fun _ h=>by cases h⟩
   ·obtain rfl:k=xs.length:=by omega
    obtain⟨h1,h2⟩:=tG HOK.out;rw[List.take_length]at hs;rw[List.take_length]
    cases hmS:En.money (Sh.sum xs)
    ·have hef:=HE.trans (h2 hmS)
     have HEF:=mh (And.intro hef (xH hef (by decide)));clear h1 h2 hef hlt hk
     go_wp2_with (first|(go_at_call 56;refine(qL _ _).mono ?_;rintro e w' ⟨rfl,rfl⟩))
     go_ret2
     exact⟨none,0,by rw[HEF.out.1,HEF.out.2];rfl,by rw[HEF.out.2];exact qR.nil _ _,HB.out,fun _ h=>by cases h⟩
    ·have hef:=HE.trans (h1 hmS)
     have hF:=Ce.fine_of hef;have F:=mh hF;have hre:Ce.redErr D (Sh.sum xs)=0:=by unfold Ce.redErr;rw[if_neg (by rw[C.out.1];simp),if_neg (by rw[hmS];simp)]
     have hr:=fun (W:World) (h:jF W p D)=>cY p D cap (Sh.sum xs) W h
     rw[hre,show Ce.redVal D (Sh.sum xs)=Ce.red D (Sh.sum xs) by unfold Ce.redVal;rw[if_neg (by rw[hre];simp)]]at hr;have HR:=mh hr;have hleft:Ce.farmLeft D m xs=min (Ce.red D (Sh.sum xs)) m:=Int.min_comm _ _
     by_cases heq:Ce.farmLeft D m xs=Sh.sum xs
     ·have HS:=mh (And.intro hef (hF.same heq))
      rw[hleft]at heq;have hbq:(Sh.sum xs==Sh.sum xs)=true:=by simp
      obtain⟨i0,hi,hz0,hz1,hz2⟩:=info_parts yS;have HIN:=mh (And.intro hi (And.intro hz0 (And.intro hz1 hz2)));clear hr hF hleft hi hz0 hz1 hz2 hre hef h1 h2 hlt hk
      go_wp2_with (first|(go_at_call 56;refine(qL _ _).mono ?_;rintro e w' ⟨rfl,rfl⟩)|(go_at_call 105;refine(HR.out _ HPZ.out).mono ?_;rintro e w2 ⟨rfl,n2,rfl⟩)|(at_builtin;(refine Own.copyOf HIN.1 HIN.2.1 HIN.2.2.1 HIN.2.2.2 Tryz.underlying22 rfl (.const (.slice none 0 0)) (.tmp 60) rfl xs q capx (HIZ.below (qQ _ n2)) rfl rfl (by omega) ?_);intro v3 w3 hown3 hb3))
      obtain⟨p3,c3,rfl,hI3,hn3⟩:=hown3.intsN
      go_ret2
      exact⟨p3,c3,by rw[HS.out.1,HS.out.2];rfl,by rw[HS.out.2];exact hI3,qH (qH HB.out HB.size (qQ _ n2)) HB.size hb3,fun a h=>Nat.le_trans HB.size (hn3 a h)⟩
     ·have hfa:Ce.farm D m xs=jD (Ce.farmLeft D m xs) xs:=by unfold Ce.farm;rw[if_neg (by rw[hF.err];simp),if_neg heq]
      have hsh:=fun (W:World) (h:qR W q xs)=>wS (Ce.farmLeft D m xs) q xs capx W h
      rw[hF.shErr]at hsh;rw[hleft]at heq hsh hfa;have HS:=mh (And.intro hef hfa);have hbq:(min (Ce.red D (Sh.sum xs)) m==Sh.sum xs)=false:=by simpa using heq
      have HSH:=mh hsh;clear hr hF hleft hfa hsh heq hre hef h1 h2 hlt hk
      go_wp2_with (first|(go_at_call 56;refine(qL _ _).mono ?_;rintro e w' ⟨rfl,rfl⟩)|(go_at_call 105;refine(HR.out _ HPZ.out).mono ?_;rintro e w2 ⟨rfl,n2,rfl⟩)|(go_at_call 98;refine(HSH.out _ (HIZ.below (qQ _ n2))).mono ?_;rintro e w3 ⟨p3,c3,rfl,hI3,hb3,hn3⟩))
      go_ret2
      exact⟨p3,c3,by rw[HS.out.1,HS.out.2];rfl,by rw[HS.out.2];exact hI3,qH (qH HB.out HB.size (qQ _ n2)) HB.size hb3,fun a h=>Nat.le_trans HB.size (hn3 a h)⟩
end Go.Proofs.YtefcalgjnkigjaaGreat
