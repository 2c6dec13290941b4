/- Packed. -/
import Derived.Test.YtefcalgjnkigjaaGreatL2
set_option maxRecDepth 100000
set_option maxHeartbeats 8000000
open Go.Value renaming int → I
open Go.IntKind renaming i64 → O
namespace Go.Proofs.YtefcalgjnkigjaaGreat
open Go.RowKit Te
theorem xPA (o:Int):(o=4→rV o=true)∧(o=7→rV o=true):=by
 constructor<;>(rintro rfl;rfl)
theorem zHA {Q:Nat→Prop}{D:Nat}(hD:D≤1000)(IH:gW Q D):gW Q (D+1):=by
 intro d r t w h;obtain⟨o,n,m,p,l,c⟩:=r;obtain⟨to_,tn,tm,K⟩:=t;obtain rfl:o=to_:=h.is.op;obtain rfl:n=tn:=h.is.num;obtain rfl:m=tm:=h.is.more;have hat:jE Q w d p K:=h.at_;have hlen:l=K.length:=h.is.n;have hn:=hat.len;have eD:((D+1:Nat):Int)=(D:Int)+1:=by omega
 rw[eD];clear eD;simp only;subst hlen;have hD0:(0:Int)≤(D:Int):=inn _;have hD1:((D:Int)+1==0)=false:=beq_eq_false_iff_ne.2 (by omega);have hD2:¬(D:Int)+1=0:=by omega
 have F0:=mh (fun (h:(vZ o n m K.length&&decide (K.length≤40))=false)=>zGA (d:=D) (o:=o) (n:=n) (m:=m) (K:=K) h);have F1:=mh (fun (h:(vZ o n m K.length&&decide (K.length≤40))=true)=>(zUA (d:=D) (o:=o) (n:=n) (m:=m) (K:=K) h).trans (show K.all (jB D) = !(K.any fun k => !jB D k) by rw[← List.all_eq_not_any_not]));have LM:=mh (fun W=>mT o W);have KD:=mh (fun W=>aJ o W);have SG0:=mh (fun x W=>zLA x W);have HM:=mh (xPA o);have HO:=mh (fun h=>qDA (o:=o) (n:=n) (m:=m) (k:=K.length) h);have SP0:=mh (fun h1 h2=>zCA (o:=o) (n:=n) (m:=m) (k:=K.length) h1 h2);obtain⟨B,eB⟩:∃x,(vZ o n m K.length&&decide (K.length≤40))=x:=⟨_,rfl⟩;obtain⟨lo,elo⟩:∃x,zQA o=x:=⟨_,rfl⟩;obtain⟨hi,ehi⟩:∃x,mW o=x:=⟨_,rfl⟩;obtain⟨hs,ehs⟩:∃x,rV o=x:=⟨_,rfl⟩;obtain⟨le,ele⟩:∃x,fH o=x:=⟨_,rfl⟩;obtain⟨mo,emo⟩:∃x,mA o=x:=⟨_,rfl⟩;obtain⟨V,eV⟩:∃x,jB (D+1) (.mk o n m K)=x:=⟨_,rfl⟩;rw[eB]at F0 F1 HO SP0;rw[elo,ehi,ehs]at LM;rw[ele,emo]at KD;rw[elo,ehi,ehs,ele,emo]at SP0;rw[ehs]at HM;rw[eV]at F0 F1 ⊢;obtain⟨H,eH⟩:∃x:World,x=(w.alloc (.cells #[I O o,I O n,I O m,.slice p K.length c] 76)).alloc (.cells #[I O ((D:Int)+1)] 3):=⟨_,rfl⟩;have HB0:=mh (show Below w.heap.size w ((w.alloc (.cells #[I O o,I O n,I O m,.slice p K.length c] 76)).alloc (.cells #[I O ((D:Int)+1)] 3)) from((brf _ _).alloc mle _).alloc (by simp) _);have CF:=mh (dM hD IH d p K c (w.heap.size+1) _ (hat.below HB0) (by rw[show w.heap.size+1=(w.alloc (.cells #[I O o,I O n,I O m,.slice p K.length c] 76)).heap.size by simp];exact cwn _ _ _ 0) (by simp));obtain⟨AN,eAN⟩:∃x,(K.any fun k => !jB D k)=x:=⟨_,rfl⟩;rw[eAN]at CF F1;clear h IH hat eB elo ehi ehs ele emo eV eH eAN
 by_cases h1:o<1
 ·have HV:=mh (F0 (HO (.inl h1)))
  have SG:=SG0
  go_enter Tryz.func167,Tryz.ntmps167
  go_wp2_with (first|(go_at_call 196;(with_reducible refine cmo (LM.out _) ?_);rintro e w1 ⟨rfl,rfl⟩)|(go_at_call 197;(with_reducible refine cmo (KD.out _) ?_);rintro e w1 ⟨rfl,rfl⟩)|(go_at_call 198;(with_reducible refine cmo (SG.out _) ?_);rintro e w1 ⟨rfl,rfl⟩))
  go_ret
  exact⟨by rw[HV.out];rfl,by go_grown⟩
 by_cases h2:11<o
 ·have HV:=mh (F0 (HO (.inr h2)))
  have SG:=SG0
  go_enter Tryz.func167,Tryz.ntmps167
  go_wp2_with (first|(go_at_call 196;(with_reducible refine cmo (LM.out _) ?_);rintro e w1 ⟨rfl,rfl⟩)|(go_at_call 197;(with_reducible refine cmo (KD.out _) ?_);rintro e w1 ⟨rfl,rfl⟩)|(go_at_call 198;(with_reducible refine cmo (SG.out _) ?_);rintro e w1 ⟨rfl,rfl⟩))
  go_ret
  exact⟨by rw[HV.out];rfl,by go_grown⟩
 have SP:=mh (SP0 (by omega) (by omega));clear SP0 HO
 cases hs
 ·have h4:¬o=4:=fun e=>by have:=HM.1 e;cases this
  have h7:¬o=7:=fun e=>by have:=HM.2 e;cases this
  have h4b:(o==4)=false:=beq_eq_false_iff_ne.2 h4;have h7b:(o==7)=false:=beq_eq_false_iff_ne.2 h7;have h7c:(o != 7)=true:=bne_iff_ne.2 h7;have SG:=SG0
  by_cases hn0:n=0
  rotate_left
  ·have hnb:(n != 0)=true:=bne_iff_ne.2 hn0
   have HV:=mh (F0 (Bool.eq_false_iff.2 fun e=>by obtain⟨a1,a2,a3,a4,a5⟩:=SP.1 e;exact absurd a1 hn0))
   go_enter Tryz.func167,Tryz.ntmps167
   go_wp2_with (first|(go_at_call 196;(with_reducible refine cmo (LM.out _) ?_);rintro e w1 ⟨rfl,rfl⟩)|(go_at_call 197;(with_reducible refine cmo (KD.out _) ?_);rintro e w1 ⟨rfl,rfl⟩)|(go_at_call 198;(with_reducible refine cmo (SG.out _) ?_);rintro e w1 ⟨rfl,rfl⟩))
   go_ret
   exact⟨by rw[HV.out];rfl,by go_grown⟩
  subst hn0
  by_cases hm0:m=0
  rotate_left
  ·have hmb:(m != 0)=true:=bne_iff_ne.2 hm0
   have HV:=mh (F0 (Bool.eq_false_iff.2 fun e=>by obtain⟨a1,a2,a3,a4,a5⟩:=SP.1 e;rw[if_neg h7]at a3;exact hm0 a3))
   go_enter Tryz.func167,Tryz.ntmps167
   go_wp2_with (first|(go_at_call 196;(with_reducible refine cmo (LM.out _) ?_);rintro e w1 ⟨rfl,rfl⟩)|(go_at_call 197;(with_reducible refine cmo (KD.out _) ?_);rintro e w1 ⟨rfl,rfl⟩)|(go_at_call 198;(with_reducible refine cmo (SG.out _) ?_);rintro e w1 ⟨rfl,rfl⟩))
   go_ret
   exact⟨by rw[HV.out];rfl,by go_grown⟩
  subst hm0
  by_cases g1:(K.length:Int)<le
  ·have HV:=mh (F0 (Bool.eq_false_iff.2 fun e=>by obtain⟨a1,a2,a3,a4,a5⟩:=SP.1 e;omega))
   go_enter Tryz.func167,Tryz.ntmps167
   go_wp2_with (first|(go_at_call 196;(with_reducible refine cmo (LM.out _) ?_);rintro e w1 ⟨rfl,rfl⟩)|(go_at_call 197;(with_reducible refine cmo (KD.out _) ?_);rintro e w1 ⟨rfl,rfl⟩)|(go_at_call 198;(with_reducible refine cmo (SG.out _) ?_);rintro e w1 ⟨rfl,rfl⟩))
   go_ret
   exact⟨by rw[HV.out];rfl,by go_grown⟩
  by_cases g2:mo<(K.length:Int)
  ·have HV:=mh (F0 (Bool.eq_false_iff.2 fun e=>by obtain⟨a1,a2,a3,a4,a5⟩:=SP.1 e;omega))
   go_enter Tryz.func167,Tryz.ntmps167
   go_wp2_with (first|(go_at_call 196;(with_reducible refine cmo (LM.out _) ?_);rintro e w1 ⟨rfl,rfl⟩)|(go_at_call 197;(with_reducible refine cmo (KD.out _) ?_);rintro e w1 ⟨rfl,rfl⟩)|(go_at_call 198;(with_reducible refine cmo (SG.out _) ?_);rintro e w1 ⟨rfl,rfl⟩))
   go_ret
   exact⟨by rw[HV.out];rfl,by go_grown⟩
  have HV:=mh (F1 (SP.2 ⟨by simp,by simp_all,by simp_all,by omega,by omega⟩))
  go_enter Tryz.func167,Tryz.ntmps167
  go_wp2_with (first|(go_at_call 196;(with_reducible refine cmo (LM.out _) ?_);rintro e w1 ⟨rfl,rfl⟩)|(go_at_call 197;(with_reducible refine cmo (KD.out _) ?_);rintro e w1 ⟨rfl,rfl⟩)|(go_at_call 198;(with_reducible refine cmo (SG.out _) ?_);rintro e w1 ⟨rfl,rfl⟩)|(go_at_call 199;(with_reducible refine cmo CF.out ?_);rintro e w1 ⟨rfl,hb1⟩))
  go_ret
  exact⟨qT HV.symm,HB0.trans (hb1.mono (by simp;omega))⟩
 ·by_cases f1:n<lo
  ·have HV:=mh (F0 (Bool.eq_false_iff.2 fun e=>by obtain⟨a1,a2,a3,a4,a5⟩:=SP.1 e;rw[if_pos rfl]at a1;omega))
   go_enter Tryz.func167,Tryz.ntmps167
   go_wp2_with (first|(go_at_call 196;(with_reducible refine cmo (LM.out _) ?_);rintro e w1 ⟨rfl,rfl⟩)|(go_at_call 197;(with_reducible refine cmo (KD.out _) ?_);rintro e w1 ⟨rfl,rfl⟩)|(go_at_call 198;(with_reducible refine cmo (SG.out _) ?_);rintro e w1 ⟨rfl,rfl⟩))
   go_ret
   exact⟨by rw[HV.out];rfl,by go_grown⟩
  by_cases f2:hi<n
  ·have HV:=mh (F0 (Bool.eq_false_iff.2 fun e=>by obtain⟨a1,a2,a3,a4,a5⟩:=SP.1 e;rw[if_pos rfl]at a1;omega))
   go_enter Tryz.func167,Tryz.ntmps167
   go_wp2_with (first|(go_at_call 196;(with_reducible refine cmo (LM.out _) ?_);rintro e w1 ⟨rfl,rfl⟩)|(go_at_call 197;(with_reducible refine cmo (KD.out _) ?_);rintro e w1 ⟨rfl,rfl⟩)|(go_at_call 198;(with_reducible refine cmo (SG.out _) ?_);rintro e w1 ⟨rfl,rfl⟩))
   go_ret
   exact⟨by rw[HV.out];rfl,by go_grown⟩
  by_cases h4:o=4
  ·subst h4
   have SG:=mh (SG0 n);obtain⟨sn,esn⟩:∃x,zE n=x:=⟨_,rfl⟩;rw[esn]at SG SP;clear esn
   cases sn
   ·have HV:=mh (F0 (Bool.eq_false_iff.2 fun e=>by obtain⟨a1,a2,a3,a4,a5⟩:=SP.1 e;cases a2 rfl))
    go_enter Tryz.func167,Tryz.ntmps167
    go_wp2_with (first|(go_at_call 196;(with_reducible refine cmo (LM.out _) ?_);rintro e w1 ⟨rfl,rfl⟩)|(go_at_call 197;(with_reducible refine cmo (KD.out _) ?_);rintro e w1 ⟨rfl,rfl⟩)|(go_at_call 198;(with_reducible refine cmo (SG.out _) ?_);rintro e w1 ⟨rfl,rfl⟩))
    go_ret
    exact⟨by rw[HV.out];rfl,by go_grown⟩
   by_cases hm0:m=0
   rotate_left
   ·have hmb:(m != 0)=true:=bne_iff_ne.2 hm0
    have HV:=mh (F0 (Bool.eq_false_iff.2 fun e=>by obtain⟨a1,a2,a3,a4,a5⟩:=SP.1 e;rw[if_neg (by decide)]at a3;exact hm0 a3))
    go_enter Tryz.func167,Tryz.ntmps167
    go_wp2_with (first|(go_at_call 196;(with_reducible refine cmo (LM.out _) ?_);rintro e w1 ⟨rfl,rfl⟩)|(go_at_call 197;(with_reducible refine cmo (KD.out _) ?_);rintro e w1 ⟨rfl,rfl⟩)|(go_at_call 198;(with_reducible refine cmo (SG.out _) ?_);rintro e w1 ⟨rfl,rfl⟩))
    go_ret
    exact⟨by rw[HV.out];rfl,by go_grown⟩
   subst hm0
   by_cases g1:(K.length:Int)<le
   ·have HV:=mh (F0 (Bool.eq_false_iff.2 fun e=>by obtain⟨a1,a2,a3,a4,a5⟩:=SP.1 e;omega))
    go_enter Tryz.func167,Tryz.ntmps167
    go_wp2_with (first|(go_at_call 196;(with_reducible refine cmo (LM.out _) ?_);rintro e w1 ⟨rfl,rfl⟩)|(go_at_call 197;(with_reducible refine cmo (KD.out _) ?_);rintro e w1 ⟨rfl,rfl⟩)|(go_at_call 198;(with_reducible refine cmo (SG.out _) ?_);rintro e w1 ⟨rfl,rfl⟩))
    go_ret
    exact⟨by rw[HV.out];rfl,by go_grown⟩
   by_cases g2:mo<(K.length:Int)
   ·have HV:=mh (F0 (Bool.eq_false_iff.2 fun e=>by obtain⟨a1,a2,a3,a4,a5⟩:=SP.1 e;omega))
    go_enter Tryz.func167,Tryz.ntmps167
    go_wp2_with (first|(go_at_call 196;(with_reducible refine cmo (LM.out _) ?_);rintro e w1 ⟨rfl,rfl⟩)|(go_at_call 197;(with_reducible refine cmo (KD.out _) ?_);rintro e w1 ⟨rfl,rfl⟩)|(go_at_call 198;(with_reducible refine cmo (SG.out _) ?_);rintro e w1 ⟨rfl,rfl⟩))
    go_ret
    exact⟨by rw[HV.out];rfl,by go_grown⟩
   have HV:=mh (F1 (SP.2 ⟨by first|simpa using ⟨by omega,by omega⟩|simp_all,by simp_all,by simp_all,by omega,by omega⟩))
   go_enter Tryz.func167,Tryz.ntmps167
   go_wp2_with (first|(go_at_call 196;(with_reducible refine cmo (LM.out _) ?_);rintro e w1 ⟨rfl,rfl⟩)|(go_at_call 197;(with_reducible refine cmo (KD.out _) ?_);rintro e w1 ⟨rfl,rfl⟩)|(go_at_call 198;(with_reducible refine cmo (SG.out _) ?_);rintro e w1 ⟨rfl,rfl⟩)|(go_at_call 199;(with_reducible refine cmo CF.out ?_);rintro e w1 ⟨rfl,hb1⟩))
   go_ret
   exact⟨qT HV.symm,HB0.trans (hb1.mono (by simp;omega))⟩
  by_cases h7:o=7
  ·subst h7
   have SG:=mh (SG0 m);obtain⟨sn,esn⟩:∃x,zE m=x:=⟨_,rfl⟩;rw[esn]at SG SP;clear esn
   cases sn
   ·have HV:=mh (F0 (Bool.eq_false_iff.2 fun e=>by obtain⟨a1,a2,a3,a4,a5⟩:=SP.1 e;rw[if_pos rfl]at a3;cases a3))
    go_enter Tryz.func167,Tryz.ntmps167
    go_wp2_with (first|(go_at_call 196;(with_reducible refine cmo (LM.out _) ?_);rintro e w1 ⟨rfl,rfl⟩)|(go_at_call 197;(with_reducible refine cmo (KD.out _) ?_);rintro e w1 ⟨rfl,rfl⟩)|(go_at_call 198;(with_reducible refine cmo (SG.out _) ?_);rintro e w1 ⟨rfl,rfl⟩))
    go_ret
    exact⟨by rw[HV.out];rfl,by go_grown⟩
   by_cases g1:(K.length:Int)<le
   ·have HV:=mh (F0 (Bool.eq_false_iff.2 fun e=>by obtain⟨a1,a2,a3,a4,a5⟩:=SP.1 e;omega))
    go_enter Tryz.func167,Tryz.ntmps167
    go_wp2_with (first|(go_at_call 196;(with_reducible refine cmo (LM.out _) ?_);rintro e w1 ⟨rfl,rfl⟩)|(go_at_call 197;(with_reducible refine cmo (KD.out _) ?_);rintro e w1 ⟨rfl,rfl⟩)|(go_at_call 198;(with_reducible refine cmo (SG.out _) ?_);rintro e w1 ⟨rfl,rfl⟩))
    go_ret
    exact⟨by rw[HV.out];rfl,by go_grown⟩
   by_cases g2:mo<(K.length:Int)
   ·have HV:=mh (F0 (Bool.eq_false_iff.2 fun e=>by obtain⟨a1,a2,a3,a4,a5⟩:=SP.1 e;omega))
    go_enter Tryz.func167,Tryz.ntmps167
    go_wp2_with (first|(go_at_call 196;(with_reducible refine cmo (LM.out _) ?_);rintro e w1 ⟨rfl,rfl⟩)|(go_at_call 197;(with_reducible refine cmo (KD.out _) ?_);rintro e w1 ⟨rfl,rfl⟩)|(go_at_call 198;(with_reducible refine cmo (SG.out _) ?_);rintro e w1 ⟨rfl,rfl⟩))
    go_ret
    exact⟨by rw[HV.out];rfl,by go_grown⟩
   have HV:=mh (F1 (SP.2 ⟨by first|simpa using ⟨by omega,by omega⟩|simp_all,by simp_all,by simp_all,by omega,by omega⟩))
   go_enter Tryz.func167,Tryz.ntmps167
   go_wp2_with (first|(go_at_call 196;(with_reducible refine cmo (LM.out _) ?_);rintro e w1 ⟨rfl,rfl⟩)|(go_at_call 197;(with_reducible refine cmo (KD.out _) ?_);rintro e w1 ⟨rfl,rfl⟩)|(go_at_call 198;(with_reducible refine cmo (SG.out _) ?_);rintro e w1 ⟨rfl,rfl⟩)|(go_at_call 199;(with_reducible refine cmo CF.out ?_);rintro e w1 ⟨rfl,hb1⟩))
   go_ret
   exact⟨qT HV.symm,HB0.trans (hb1.mono (by simp;omega))⟩
  have h4b:(o==4)=false:=beq_eq_false_iff_ne.2 h4;have h7b:(o==7)=false:=beq_eq_false_iff_ne.2 h7;have h7c:(o != 7)=true:=bne_iff_ne.2 h7;have SG:=SG0
  by_cases hm0:m=0
  rotate_left
  ·have hmb:(m != 0)=true:=bne_iff_ne.2 hm0
   have HV:=mh (F0 (Bool.eq_false_iff.2 fun e=>by obtain⟨a1,a2,a3,a4,a5⟩:=SP.1 e;rw[if_neg h7]at a3;exact hm0 a3))
   go_enter Tryz.func167,Tryz.ntmps167
   go_wp2_with (first|(go_at_call 196;(with_reducible refine cmo (LM.out _) ?_);rintro e w1 ⟨rfl,rfl⟩)|(go_at_call 197;(with_reducible refine cmo (KD.out _) ?_);rintro e w1 ⟨rfl,rfl⟩)|(go_at_call 198;(with_reducible refine cmo (SG.out _) ?_);rintro e w1 ⟨rfl,rfl⟩))
   go_ret
   exact⟨by rw[HV.out];rfl,by go_grown⟩
  subst hm0
  by_cases g1:(K.length:Int)<le
  ·have HV:=mh (F0 (Bool.eq_false_iff.2 fun e=>by obtain⟨a1,a2,a3,a4,a5⟩:=SP.1 e;omega))
   go_enter Tryz.func167,Tryz.ntmps167
   go_wp2_with (first|(go_at_call 196;(with_reducible refine cmo (LM.out _) ?_);rintro e w1 ⟨rfl,rfl⟩)|(go_at_call 197;(with_reducible refine cmo (KD.out _) ?_);rintro e w1 ⟨rfl,rfl⟩)|(go_at_call 198;(with_reducible refine cmo (SG.out _) ?_);rintro e w1 ⟨rfl,rfl⟩))
   go_ret
   exact⟨by rw[HV.out];rfl,by go_grown⟩
  by_cases g2:mo<(K.length:Int)
  ·have HV:=mh (F0 (Bool.eq_false_iff.2 fun e=>by obtain⟨a1,a2,a3,a4,a5⟩:=SP.1 e;omega))
   go_enter Tryz.func167,Tryz.ntmps167
   go_wp2_with (first|(go_at_call 196;(with_reducible refine cmo (LM.out _) ?_);rintro e w1 ⟨rfl,rfl⟩)|(go_at_call 197;(with_reducible refine cmo (KD.out _) ?_);rintro e w1 ⟨rfl,rfl⟩)|(go_at_call 198;(with_reducible refine cmo (SG.out _) ?_);rintro e w1 ⟨rfl,rfl⟩))
   go_ret
   exact⟨by rw[HV.out];rfl,by go_grown⟩
  have HV:=mh (F1 (SP.2 ⟨by first|simpa using ⟨by omega,by omega⟩|simp_all,by simp_all,by simp_all,by omega,by omega⟩))
  go_enter Tryz.func167,Tryz.ntmps167
  go_wp2_with (first|(go_at_call 196;(with_reducible refine cmo (LM.out _) ?_);rintro e w1 ⟨rfl,rfl⟩)|(go_at_call 197;(with_reducible refine cmo (KD.out _) ?_);rintro e w1 ⟨rfl,rfl⟩)|(go_at_call 198;(with_reducible refine cmo (SG.out _) ?_);rintro e w1 ⟨rfl,rfl⟩)|(go_at_call 199;(with_reducible refine cmo CF.out ?_);rintro e w1 ⟨rfl,hb1⟩))
  go_ret
  exact⟨qT HV.symm,HB0.trans (hb1.mono (by simp;omega))⟩
theorem tX (Q:Nat→Prop):∀D:Nat,D≤1000→gW Q D
 | 0,_=>zFA Q
 | D+1,h=>zHA (by omega) (tX Q D (by omega))
theorem lG {Q:Nat→Prop}(d:Nat)(r:RT)(t:Tm)(w:World)(h:TV Q w d r t) :
  Calls Tryz.prog 121 #[.agg #[I O r.op,I O r.num,I O r.more,.slice r.p r.n r.c]] w (kW (gH t) w):=by
 have hA:Below w.heap.size w (w.alloc (.cells #[I O r.op,I O r.num,I O r.more,.slice r.p r.n r.c] 76)):=(brf _ _).alloc mle _;have CT:=mh (lN d r t 40 _ (h.below hA) (by omega) (by omega));have RT:=mh (fun (W:World) (hW:Below w.heap.size w W)=>show Calls Tryz.prog 167 #[.agg #[I O r.op,I O r.num,I O r.more,.slice r.p r.n r.c],I O 8] W (yC (jB 8 t) W) from tX Q 8 (by omega) d r t W (h.below hW));have CR:=mh (jXA t);have HA:=mh hA;have CB:=yWA t 40 (by omega);have HC:=mh (show(uP t 40≤40↔count t≤40) by unfold uP;split<;>omega);obtain⟨N,eN⟩:∃N,uP t 40=N:=⟨_,rfl⟩;rw[eN]at CT CB HC;obtain⟨B,eB⟩:∃B,jB 8 t=B:=⟨_,rfl⟩;rw[eB]at RT CR;clear eN eB h hA
 by_cases h1:40<N
 ·have HV:=mh (show gH t=1 by rw[CR.out,if_pos (by have:=HC.out;omega)])
  go_enter Tryz.func121,Tryz.ntmps121
  go_wp2_with (first|(go_at_call 166;(with_reducible refine cmo CT.out ?_);rintro e w1 ⟨rfl,hb1⟩))
  go_ret
  exact⟨qA HV.symm,qZ mle HA hb1⟩
 ·have hN:¬40<count t:=by have:=HC.out;omega
  cases B
  ·have HV:=mh (show gH t=16 by rw[CR.out,if_neg hN,if_pos rfl])
   go_enter Tryz.func121,Tryz.ntmps121
   go_wp2_with (first|(go_at_call 166;(with_reducible refine cmo CT.out ?_);rintro e w1 ⟨rfl,hb1⟩;have hk:=hb1.cell (p:=⟨w.heap.size,0,none⟩) (by simp);have RT1:=mh (RT w1 (qZ mle HA hb1));have HB1:=mh (qZ mle HA hb1);have hk0:=qJ hb1 0;have hk1:=qJ hb1 1;have hk2:=qJ hb1 2;have hk3:=qJ hb1 3;clear hb1)|(go_at_call 167;(with_reducible refine cmo RT1.out ?_);rintro e w2 ⟨rfl,hb2⟩))
   go_ret
   exact⟨qA HV.symm,qZ mle HB1 hb2⟩
  ·have HV:=mh (show gH t=0 by rw[CR.out,if_neg hN,if_neg (by simp)])
   go_enter Tryz.func121,Tryz.ntmps121
   go_wp2_with (first|(go_at_call 166;(with_reducible refine cmo CT.out ?_);rintro e w1 ⟨rfl,hb1⟩;have RT1:=mh (RT w1 (qZ mle HA hb1));have HB1:=mh (qZ mle HA hb1);have hk0:=qJ hb1 0;have hk1:=qJ hb1 1;have hk2:=qJ hb1 2;have hk3:=qJ hb1 3;clear hb1)|(go_at_call 167;(with_reducible refine cmo RT1.out ?_);rintro e w2 ⟨rfl,hb2⟩))
   go_ret
   exact⟨qA HV.symm,qZ mle HB1 hb2⟩
namespace Sc
open Go.Lib Te
structure Brk where
 up:Int
 rate:Int
structure Sch where
 num:Int
 nm:ByteArray
 cond:Tm
 br:List Brk
 least:Int
 ex:Int
 needs:Bool
def zH (x n:Int):Bool:=decide (x / 2 ^ n.toNat % 2=1)
def upB (l:List Brk) (k:Nat):Int:=if k=0 then 0 else match l[k - 1]? with|some b=>b.up|none=>0
def lY (l:List Brk) (k:Nat):Bool:=match l[k]? with|some b=>decide (upB l k<b.up)&&(decide (b.up≤268435456)&&(decide (0≤b.rate)&&decide (b.rate≤1048576)))|none=>true
def yD (l:List Brk) (n:Nat):Bool:=(List.range n).all (lY l)
def brB (l:List Brk):Bool:=yD l l.length&&(decide (1≤l.length)&&decide (l.length≤6))
theorem xS (l:List Brk)(n:Nat):yD l (n+1)=(yD l n&&lY l n):=by unfold yD;rw[List.range_succ,List.all_append];simp
theorem yX {l:List Brk}{m n:Nat}(h:m≤n)(h2:yD l n=true):yD l m=true:=by
 unfold yD at *;rw[List.all_eq_true]at *;intro i hi;exact h2 i (List.mem_range.2 (nll (List.mem_range.1 hi) h))
theorem wX {l:List Brk}{k:Nat}(h:k<l.length):lY l k=(decide (upB l k<l[k].up)&&(decide (l[k].up≤268435456)&&(decide (0≤l[k].rate)&&decide (l[k].rate≤1048576)))):=by
 unfold lY;rw[List.getElem?_eq_getElem h]
theorem kK {l:List Brk}{k:Nat}(h:k<l.length):upB l (k+1)=l[k].up:=by
 unfold upB;rw[if_neg (by omega),Nat.add_sub_cancel,List.getElem?_eq_getElem h]
theorem fM {l:List Brk}{k:Nat}(hk:k≤l.length)(h:yD l k=true):0≤upB l k:=by
 induction k with
 | zero=>unfold upB;simp
 | succ k ih =>
   rw[xS,Bool.and_eq_true]at h;have h1:=ih (by omega) h.1;rw[kK (by omega)];have:=h.2;rw[wX (by omega),Bool.and_eq_true,decide_eq_true_eq]at this;omega
def zY (s:Sch):Int :=
 if s.num<0∨15<s.num∨s.least<0∨268435456<s.least then 2
 else if Wo.nameB s.nm.data.toList=false then 5
 else if gH s.cond≠0 then gH s.cond
 else if brB s.br=false∨s.ex<0∨65536≤s.ex∨zH s.ex s.num=true then 3
 else 0
def fst (f:Nat→Int) (n:Nat):Option Nat:=(List.range n).find? fun i=>f i != 0
theorem vB {f:Nat→Int}{n:Nat}(h:∀j,j<n→f j=0):fst f n=none:=by
 unfold fst;rw[List.find?_eq_none];intro i hi;rw[h i (List.mem_range.1 hi)]
 decide
theorem aQ {f:Nat→Int}{n k:Nat}(hk:k<n)(h:∀j,j<k→f j=0)(h2:f k≠0):fst f n=some k:=by
 unfold fst;rw[List.find?_eq_some_iff_append];refine⟨by simpa using h2,List.range k,(List.range (n - k - 1)).map (k+1+·),?_,fun i hi=>?_⟩
 ·have:n=k+(n - k - 1+1):=by omega
  rw[this,List.range_add,List.range_succ_eq_map]
  simp
  intro a _;omega
 ·rw[h i (List.mem_range.1 hi)];decide
def yH (L:List Sch) (i:Nat) (s:Sch):Bool:=(match i with|0=>false|k+1=>match L[k]? with|some p=>decide (s.num≤p.num)|none=>false)||(L.take i).any fun x=>x.nm.data.toList==s.nm.data.toList
def xX (L:List Sch) (i:Nat):Int:=match L[i]? with|some s=>if zY s≠0 then zY s else if yH L i s=true then 6 else 0|none=>0
def yE (L:List Sch) (n:Int):Int:=match (L.findIdx? fun s=>s.num==n) with|some i=>(i:Int)|none => -1
def uW (L:List Sch) (s:Sch) (n:Nat):Bool:=if zH s.ex n=false then true else match L.find? fun x=>x.num==(n:Int) with|some x=>zH x.ex s.num|none=>false
def zP (L:List Sch) (s:Sch):Bool:=(List.range 16).all (uW L s)
def uY (L:List Sch) (i:Nat):Int:=match L[i]? with|some s=>if zP L s=true then 0 else 17|none=>0
def jU (L:List Sch):Int × Int :=
 if 16<L.length then (0,1)
 else match fst (xX L) L.length with
  | some i=>((i:Int),xX L i)
  | none=>match fst (uY L) L.length with
    | some i=>((i:Int),17)
    | none=>(-1,0)
def amt (l:List Brk) (sq:Int) (k:Nat):Int:=match k with|0=>0|k+1=>amt l sq k+match l[k]? with|some b=>max 0 (min sq b.up - upB l k)*b.rate|none=>0
def kS (s:Sch) (sq:Int):Int:=if zY s≠0 then 17 else if sq<0∨268435456<sq then 2 else 0
def uK (s:Sch) (sq:Int):Int:=if kS s sq≠0 then 0 else amt s.br sq s.br.length / 100
/-! ### lines -/
/-! ### reading -/
end Sc
open Sc
def kJA (b:Brk):List Value := [I O b.up,I O b.rate]
def SBk:jJ Brk:=⟨2,kJA,fun _=>rfl,by decide,fun a u hu=>by
 simp only[kJA,List.mem_cons,List.not_mem_nil,or_false]at hu
 rcases hu with rfl|rfl<;>rfl⟩
theorem kPA:(Tryz.prog.info? 78).map (fun i=>(i.zero,i.size,i.bytes))=some (some (.agg #[I O 0,I O 0]),2,16):=by kernel_rfl
theorem el_brk:fP SBk Tryz.prog 78 79 16:=by
 obtain⟨i0,h1,h2,h3,h4⟩:=info_parts kPA;exact⟨⟨i0,_,h1,h2,h3,h4,rfl⟩,Tryz.underlying79⟩
theorem dH {w:World}{p:Option Addr}{L:List Brk}(h:qD SBk w p L){k:Nat}(hk:k<L.length) :
  ∃b off x,p=some ⟨b,off,none⟩∧b<w.heap.size∧w.cell? ⟨b,off+k*2,none⟩=some (I O x.up)∧w.cell? ⟨b,off+k*2+1,none⟩=some (I O x.rate)∧Hid (L[k]=x):=by
 obtain⟨b,off,hp,hb,hc⟩:=h.at hk;exact⟨b,off,_,hp,hb,hc 0 _ rfl,hc 1 _ rfl,rfl⟩
structure RSx where
 num:Int
 nm:ByteArray
 t:RT
 bp:Option Addr
 bn:Nat
 bc:Nat
 least:Int
 ex:Int
 needs:Bool
def zN (r:RSx):List Value := [I O r.num,.string r.nm,I O r.t.op,I O r.t.num,I O r.t.more,.slice r.t.p r.t.n r.t.c,.slice r.bp r.bn r.bc,I O r.least,I O r.ex,.bool r.needs]
def SSc:jJ RSx:=⟨10,zN,fun _=>rfl,by decide,fun a u hu=>by
 simp only[zN,List.mem_cons,List.not_mem_nil,or_false]at hu
 rcases hu with rfl|rfl|rfl|rfl|rfl|rfl|rfl|rfl|rfl|rfl<;>rfl⟩
theorem kTA:(Tryz.prog.info? 81).map (fun i=>(i.zero,i.size,i.bytes))=some (some (.agg #[I O 0,.string ByteArray.empty,I O 0,I O 0,I O 0,.slice none 0 0,.slice none 0 0,I O 0,I O 0,.bool false]),10,120):=by kernel_rfl
theorem fY:fP SSc Tryz.prog 81 23 120:=by
 obtain⟨i0,h1,h2,h3,h4⟩:=info_parts kTA;exact⟨⟨i0,_,h1,h2,h3,h4,rfl⟩,Tryz.underlying23⟩
structure SV (Q:Nat→Prop) (w:World) (d:Nat) (r:RSx) (s:Sch):Prop where
 num:r.num=s.num
 nm:r.nm=s.nm
 t:TV Q w d r.t s.cond
 br:qD SBk w r.bp s.br
 bn:r.bn=s.br.length
 bc:r.bn≤r.bc
 bz:r.bp=none→r.bc=0
 bq:∀a,r.bp=some a→s.br = []∨Q a.block
 least:r.least=s.least
 ex:r.ex=s.ex
 needs:r.needs=s.needs
theorem SV.change {Q Q' : Nat→Prop}{w w' : World}{d:Nat}{r:RSx}{s:Sch}(h:SV Q w d r s)(hs:w.heap.size≤w'.heap.size)(hb:∀b,Q b→b<w.heap.size→w'.heap[b]?=w.heap[b]?∧Q' b):SV Q' w' d r s:=by
 have key:∀a,r.bp=some a→s.br = []∨(w'.heap[a.block]?=w.heap[a.block]?∧Q' a.block):=fun a e=>by
  rcases h.bq a e with h1|h1
  ·exact .inl h1
  ·by_cases h0:s.br = []
   ·exact .inl h0
   ·exact .inr (hb _ h1 (h.br.lt h0 e))
 exact⟨h.num,h.nm,h.t.change hs hb,h.br.blocks hs fun a e=>(key a e).imp id And.left,h.bn,h.bc,h.bz,fun a e=>(key a e).imp id And.right,h.least,h.ex,h.needs⟩
theorem SV.below {Q:Nat→Prop}{w w' : World}{d:Nat}{r:RSx}{s:Sch}(h:SV Q w d r s)(hb:Below w.heap.size w w'):SV Q w' d r s:=h.change hb.size fun b q hl=>⟨hb.block b hl,q⟩
theorem SV.deep {Q:Nat→Prop}{w:World}{d e:Nat}{r:RSx}{s:Sch}(h:SV Q w d r s)(he:d≤e):SV Q w e r s:=⟨h.num,h.nm,h.t.deep he,h.br,h.bn,h.bc,h.bz,h.bq,h.least,h.ex,h.needs⟩
structure xY (Q:Nat→Prop) (w:World) (d:Nat) (p:Option Addr) (L:List Sch):Prop where
 ex:∃R:List RSx,R.length=L.length∧qD SSc w p R∧∀k (h:k<R.length) (h' : k<L.length),SV Q w d R[k] L[k]
 q:∀a,p=some a→L = []∨Q a.block
theorem xY.change {Q Q' : Nat→Prop}{w w' : World}{d:Nat}{p:Option Addr}{L:List Sch}(h:xY Q w d p L)(hs:w.heap.size≤w'.heap.size)(hb:∀b,Q b→b<w.heap.size→w'.heap[b]?=w.heap[b]?∧Q' b):xY Q' w' d p L:=by
 obtain⟨⟨R,h1,h2,h3⟩,h4⟩:=h;have hR:L = []↔R = []:=by rw[← List.length_eq_zero_iff,← List.length_eq_zero_iff,h1]
 have key:∀a,p=some a→L = []∨(w'.heap[a.block]?=w.heap[a.block]?∧Q' a.block):=fun a e=>by
  rcases h4 a e with h|h
  ·exact .inl h
  ·by_cases h0:L = []
   ·exact .inl h0
   ·exact .inr (hb _ h (h2.lt (fun e=>h0 (hR.2 e)) e))
 exact⟨⟨R,h1,h2.blocks hs fun a e=>(key a e).imp hR.1 And.left,fun k a b=>(h3 k a b).change hs hb⟩,fun a e=>(key a e).imp id And.right⟩
theorem xY.below {Q:Nat→Prop}{w w' : World}{d:Nat}{p:Option Addr}{L:List Sch}(h:xY Q w d p L)(hb:Below w.heap.size w w'):xY Q w' d p L:=h.change hb.size fun b q hl=>⟨hb.block b hl,q⟩
theorem xY.len {Q:Nat→Prop}{w:World}{d:Nat}{p:Option Addr}{L:List Sch}(h:xY Q w d p L):L.length≤9223372036854775807:=by
 obtain⟨⟨R,h1,h2, -⟩, -⟩:=h;rw[← h1];exact h2.len
structure yA (w:World) (b o:Nat) (r:RSx):Prop where
 c0:w.cell? ⟨b,o,none⟩=some (I O r.num)
 c1:w.cell? ⟨b,o+1,none⟩=some (.string r.nm)
 c2:w.cell? ⟨b,o+2,none⟩=some (I O r.t.op)
 c3:w.cell? ⟨b,o+3,none⟩=some (I O r.t.num)
 c4:w.cell? ⟨b,o+4,none⟩=some (I O r.t.more)
 c5:w.cell? ⟨b,o+5,none⟩=some (.slice r.t.p r.t.n r.t.c)
 c6:w.cell? ⟨b,o+6,none⟩=some (.slice r.bp r.bn r.bc)
 c7:w.cell? ⟨b,o+7,none⟩=some (I O r.least)
 c8:w.cell? ⟨b,o+8,none⟩=some (I O r.ex)
 c9:w.cell? ⟨b,o+9,none⟩=some (.bool r.needs)
theorem yA.box (w:World)(r:RSx)(T:TypeId):yA (w.alloc (.cells #[I O r.num,.string r.nm,I O r.t.op,I O r.t.num,I O r.t.more,.slice r.t.p r.t.n r.t.c,.slice r.bp r.bn r.bc,I O r.least,I O r.ex,.bool r.needs] T)) w.heap.size 0 r :=
 ⟨cwn _ _ _ 0,cwn _ _ _ 1,cwn _ _ _ 2,cwn _ _ _ 3,cwn _ _ _ 4,cwn _ _ _ 5,cwn _ _ _ 6,cwn _ _ _ 7,cwn _ _ _ 8,cwn _ _ _ 9⟩
theorem xY.at {Q:Nat→Prop}{w:World}{d:Nat}{p:Option Addr}{L:List Sch}(h:xY Q w d p L){k:Nat}(hk:k<L.length) :
  ∃b off r,p=some ⟨b,off,none⟩∧b<w.heap.size∧yA w b (off+k*10) r∧SV Q w d r L[k]:=by
 obtain⟨⟨R,h1,h2,h3⟩, -⟩:=h;have hk' : k<R.length:=by omega
 obtain⟨b,off,e,hl,hc⟩:=h2.at hk'; exact⟨b,off,R[k],e,hl,⟨hc 0 _ rfl,hc 1 _ rfl,hc 2 _ rfl,hc 3 _ rfl,hc 4 _ rfl,hc 5 _ rfl,hc 6 _ rfl,hc 7 _ rfl,hc 8 _ rfl,hc 9 _ rfl⟩,h3 k hk' hk⟩
theorem xY.take {Q:Nat→Prop}{w:World}{d:Nat}{p:Option Addr}{L:List Sch}(h:xY Q w d p L)(m:Nat):xY Q w d p (L.take m):=by
 obtain⟨⟨R,h1,h2,h3⟩,h4⟩:=h;refine⟨⟨R.take m,by rw[List.length_take,List.length_take,h1],h2.take m,fun k a b=>?_⟩,fun a e=>?_⟩
 ·rw[List.getElem_take,List.getElem_take]
  exact h3 k _ _
 ·rcases h4 a e with h|h
  ·exact .inl (by rw[h];simp)
  ·exact .inr h
theorem yKA {l:List Brk}{k:Nat}(hk:k<l.length)(h:lY l k=false):brB l=false:=by
 unfold brB
 cases e:yD l l.length with
 | false=>rfl
 | true =>
   have:=yX (show k+1≤l.length by omega) e;rw[xS,h,Bool.and_false]at this
   cases this
theorem nS {l:List Brk}{k:Nat}(hk:k<l.length){up rate prev:Int}(e:l[k]=⟨up,rate⟩)(hp:upB l k=prev) :
  (up≤prev∨268435456<up∨rate<0∨1048576<rate→lY l k=false)∧(prev<up→up≤268435456→0≤rate→rate≤1048576→lY l k=true):=by
 rw[wX hk,e,hp]
 constructor
 ·intro h
  rw[Bool.eq_false_iff];intro h2;simp only[Bool.and_eq_true,decide_eq_true_eq]at h2;omega
 ·intro h1 h2 h3 h4
  simp only[Bool.and_eq_true,decide_eq_true_eq];exact⟨h1,h2,h3,h4⟩
theorem tA (p:Option Addr)(l:List Brk)(n c:Nat)(w:World)(hn:n=l.length)(h:qD SBk w p l):Calls Tryz.prog 122 #[.slice p n c] w (yC (brB l) w):=by
 subst hn;have hl:=h.len;have H:=mh h;clear h
 go_enter Tryz.func122,Tryz.ntmps122
 go_wp2
 go_loopw [7] (fun i wr=>∃k:Nat,k≤l.length∧i=I O k∧yD l k=true∧Below w.heap.size w wr) (fun i _=>l.length - (intOf i).toNat)
 case atStart=>exact⟨0,Nat.zero_le _,rfl,rfl,brf _ _⟩
 case round =>
  obtain⟨wo,rfl⟩:∃wo:World,wo=wr:=⟨_,rfl⟩;obtain⟨k,hk,rfl,ha,hb⟩:=hrel;have HA:=mh ha;have HB:=mh hb;have hk0:(0:Int)≤(k:Int):=inn _
  by_cases hlt:k<l.length
  ·have hk1:(k:Int)<(l.length:Int):=by omega
   obtain⟨b,off,x,rfl,hbl,x0,x1,hx⟩:=dH (H.below hb) hlt;have HH:=mh (H.below hb);obtain⟨up,rate⟩:=x;simp only at x0 x1;obtain⟨prev,ep⟩:∃pv,upB l k=pv:=⟨_,rfl⟩;have hpv:0≤prev:=by rw[← ep];exact fM hk ha
   obtain⟨bad,good⟩:=nS hlt hx ep;have BAD:=mh (fun h=>yKA hlt (bad h));have GOOD:=mh (fun h1 h2 h3 h4=>(show yD l (k+1)=true by rw[xS,HA.out,good h1 h2 h3 h4];rfl));have HP:=mh ep;have HB1:=mh (qK mle HB (.cells #[I O up,I O rate] 78));clear ha hb hx ep bad good
   by_cases g1:up<1
   ·have HV:=mh (BAD (.inl (by omega)))
    have d1:decide (up<1)=true:=dqt g1;clear g1
    go_wp2_with fail
    go_quiet (fail)
    go_wp2
    go_ret
    exact⟨qT HV.symm,HB1.trans ((qQ _ _).mono HB1.size)⟩
   have d1:decide (up<1)=false:=dqf g1
   by_cases g2:268435456<up
   ·have HV:=mh (BAD (.inr (.inl g2)))
    have d2:decide (268435456<up)=true:=dqt g2;clear g1 g2
    go_wp2_with fail
    go_quiet (fail)
    go_wp2
    go_ret
    exact⟨qT HV.symm,HB1.trans ((qQ _ _).mono HB1.size)⟩
   have d2:decide (268435456<up)=false:=dqf g2
   by_cases g3:rate<0
   ·have HV:=mh (BAD (.inr (.inr (.inl g3))))
    have d3:decide (rate<0)=true:=dqt g3;clear g1 g2 g3
    go_wp2_with fail
    go_quiet (fail)
    go_wp2
    go_ret
    exact⟨qT HV.symm,HB1.trans ((qQ _ _).mono HB1.size)⟩
   have d3:decide (rate<0)=false:=dqf g3
   by_cases g4:1048576<rate
   ·have HV:=mh (BAD (.inr (.inr (.inr g4))))
    have d4:decide (1048576<rate)=true:=dqt g4;clear g1 g2 g3 g4
    go_wp2_with fail
    go_quiet (fail)
    go_wp2
    go_ret
    exact⟨qT HV.symm,HB1.trans ((qQ _ _).mono HB1.size)⟩
   have d4:decide (1048576<rate)=false:=dqf g4
   rcases Nat.eq_zero_or_pos k with hk00|hkp
   ·have hk2:decide (0<k)=false:=by rw[decide_eq_false_iff_not];omega
    have hp0:prev=0:=by rw[← HP.out,hk00];rfl
    have HN:=mh (GOOD (by omega) (by omega) (by omega) (by omega));clear hk00 hp0 g1 g2 g3 g4
    go_wp2_with fail
    go_quiet (fail)
    go_wp2
    go_roundw
    case rel=>exact⟨k+1,by omega,by go_num,HN.out,HB1.trans ((qQ _ _).mono HB1.size)⟩
    case measure=>simp[intOf];omega
   ·obtain⟨m,rfl⟩:∃m,k=m+1:=⟨k - 1,by omega⟩
    obtain⟨b', off', y,ey, -,y0, -,hy⟩:=dH HH (show m<l.length by omega)
    cases ey
    have hyp:y.up=prev:=by rw[← HP.out,kK (show m<l.length by omega),hy.out]
    obtain⟨yu,yr⟩:=y;simp only at y0 hyp;subst hyp;clear hy
    by_cases g5:up≤yu
    ·have HV:=mh (BAD (.inl g5))
     have d5:decide (up≤yu)=true:=dqt g5;clear g1 g2 g3 g4 g5
     go_wp2_with fail
     go_quiet (fail)
     go_wp2
     go_ret
     exact⟨qT HV.symm,HB1.trans ((qQ _ _).mono HB1.size)⟩
    ·have HN:=mh (GOOD (by omega) (by omega) (by omega) (by omega))
     have d5:decide (up≤yu)=false:=dqf g5;clear g1 g2 g3 g4 g5
     go_wp2_with fail
     go_quiet (fail)
     go_wp2
     go_roundw
     case rel=>exact⟨m+1+1,by omega,by go_num,HN.out,HB1.trans ((qQ _ _).mono HB1.size)⟩
     case measure=>simp[intOf];omega
  ·obtain rfl:k=l.length:=by omega
   clear hb
   by_cases g1:(l.length:Int)<1
   ·have HV:=mh (show brB l=false by
     unfold brB;rw[dqf (show ¬1≤l.length by omega)];simp)
    clear ha
    go_wp2
    go_ret
    exact⟨qT HV.symm,HB.out⟩
   by_cases g2:(6:Int)<(l.length:Int)
   ·have HV:=mh (show brB l=false by
     unfold brB;rw[dqf (show ¬l.length≤6 by omega)];simp)
    clear ha
    go_wp2
    go_ret
    exact⟨qT (by rw[HV.out];first|rfl|exact dqf (by omega)),HB.out⟩
   ·have HV:=mh (show brB l=true by
     unfold brB;rw[ha,dqt (show 1≤l.length by omega),dqt (show l.length≤6 by omega)];rfl)
    clear ha
    go_wp2
    go_ret
    exact⟨qT (by rw[HV.out]),HB.out⟩
theorem nW (p:Option Addr)(l:List Brk)(n c:Nat)(w:World)(hn:n=l.length)(h:qD SBk w p l):Calls Tryz.prog 127 #[.slice p n c] w (yC (brB l) w):=by
 subst hn;have hl:=h.len
 by_cases g1:(l.length:Int)<1
 ·have HV:=mh (show brB l=false by
   unfold brB;rw[dqf (show ¬1≤l.length by omega)];simp)
  clear h
  go_enter Tryz.func127,Tryz.ntmps127
  go_wp2
  go_ret
  exact⟨qT HV.symm,brf _ _⟩
 by_cases g2:(6:Int)<(l.length:Int)
 ·have HV:=mh (show brB l=false by
   unfold brB;rw[dqf (show ¬l.length≤6 by omega)];simp)
  clear h
  go_enter Tryz.func127,Tryz.ntmps127
  go_wp2
  go_ret
  exact⟨qT HV.symm,brf _ _⟩
 have H:=mh h
 have EV:=mh (show yD l l.length=true→brB l=true from fun ha=>by
  unfold brB;rw[ha,dqt (show 1≤l.length by omega),dqt (show l.length≤6 by omega)];rfl)
 clear h
 go_enter Tryz.func127,Tryz.ntmps127
 go_wp2
 go_loopw [3,16] (fun u i wr=>∃k:Nat,k≤l.length∧i=I O k∧u=I O (upB l k)∧yD l k=true∧Below w.heap.size w wr) (fun _ i _=>l.length - (intOf i).toNat)
 case atStart=>exact⟨0,Nat.zero_le _,rfl,rfl,rfl,brf _ _⟩
 case round =>
  obtain⟨wo,rfl⟩:∃wo:World,wo=wr:=⟨_,rfl⟩;obtain⟨k,hk,rfl,rfl,ha,hb⟩:=hrel;have HA:=mh ha;have HB:=mh hb;have hk0:(0:Int)≤(k:Int):=inn _
  by_cases hlt:k<l.length
  ·have hk1:(k:Int)<(l.length:Int):=by omega
   obtain⟨b,off,x,rfl,hbl,x0,x1,hx⟩:=dH (H.below hb) hlt;obtain⟨up,rate⟩:=x;simp only at x0 x1;obtain⟨prev,ep⟩:∃pv,upB l k=pv:=⟨_,rfl⟩;rw[ep];obtain⟨bad,good⟩:=nS hlt hx ep;have BAD:=mh (fun h=>yKA hlt (bad h));have GOOD:=mh (fun h1 h2 h3 h4=>(show yD l (k+1)=true by rw[xS,HA.out,good h1 h2 h3 h4];rfl));have HN1:=mh (show upB l (k+1)=up by rw[kK hlt,hx.out]);have HB1:=mh (qK mle HB (.cells #[I O up,I O rate] 78));clear ha hb hx ep bad good
   by_cases g1:up≤prev
   ·have HV:=mh (BAD (.inl g1))
    go_wp2
    go_ret
    exact⟨qT HV.symm,HB1.out⟩
   by_cases g2:268435456<up
   ·have HV:=mh (BAD (.inr (.inl g2)))
    go_wp2
    go_ret
    exact⟨qT HV.symm,HB1.out⟩
   by_cases g3:rate<0
   ·have HV:=mh (BAD (.inr (.inr (.inl g3))))
    go_wp2
    go_ret
    exact⟨qT HV.symm,HB1.out⟩
   by_cases g4:1048576<rate
   ·have HV:=mh (BAD (.inr (.inr (.inr g4))))
    go_wp2
    go_ret
    exact⟨qT HV.symm,HB1.out⟩
   ·have HN:=mh (GOOD (by omega) (by omega) (by omega) (by omega))
    go_wp2
    go_roundw
    case rel=>exact⟨k+1,by omega,by go_num,by rw[HN1.out],HN.out,HB1.out⟩
    case measure=>simp[intOf];omega
  ·obtain rfl:k=l.length:=by omega
   have HV:=mh (EV ha);clear hb ha
   go_wp2
   go_ret
   exact⟨qT HV.symm,HB.out⟩
end Go.Proofs.YtefcalgjnkigjaaGreat
