/- Packed. -/
import Derived.Test.YtbcmabolkkfgfaaGreatDoorQ2
set_option maxRecDepth 100000
set_option maxHeartbeats 8000000
open Go.Value renaming int → I
open Go.IntKind renaming i64 → O
namespace Go.Proofs.YtbcmabolkkfgfaaGreatDoor
open Go.RowKit Te
def RcOk (lim:Nat) (c:Nat) (n:Int):Prop:=(c≤lim→n=(c:Int))∧(lim<c→(lim:Int)<n)∧1≤n∧n≤(c:Int)
def RcG (lim:Nat) (c:Nat) (w:World) (e:Ending) (w' : World):Prop:=∃n:Int,RcOk lim c n∧e = .returned (I O n)∧Below w.heap.size w w'
theorem RcOk.step {lim c k:Nat}{n m:Int}(h:RcOk lim c n)(hn:n≤lim)(h2:RcOk lim k m):RcOk lim (c+k) (n+m):=by
 obtain⟨a1,a2,a3,a4⟩:=h;obtain⟨b1,b2,b3,b4⟩:=h2;have hc:c≤lim:=by
  rcases Nat.lt_or_ge lim c with h|h
  ·have:=a2 h;omega
  ·exact h
 have:=a1 hc;refine⟨fun h=>?_,fun h=>?_,by omega,by omega⟩
 ·have:=b1 (by omega);omega
 ·rcases Nat.lt_or_ge lim k with h3|h3
  ·have:=b2 h3;omega
  ·have:=b1 h3;omega
theorem RcOk.keep {lim c k:Nat}{n:Int}(h:RcOk lim c n)(hn:lim<n):RcOk lim (c+k) n:=by
 obtain⟨a1,a2,a3,a4⟩:=h;exact⟨fun h=>by omega,fun _=>hn,a3,by omega⟩
theorem count_cons (to_ tn tm:Int)(K:List Tm):count (.mk to_ tn tm K)=1+countL K:=by rw[count]
theorem depth_cons (to_ tn tm:Int)(K:List Tm):depth (.mk to_ tn tm K)=depthL K+1:=by rw[depth]
theorem countL_bd (K:List Tm)(j:Nat)(h:j<K.length):count K[j]≤countL K:=countL_mem (List.getElem_mem h)
theorem depthL_append (A B:List Tm):depthL (A++B)=max (depthL A) (depthL B):=by
 induction A with
 | nil=>simp[depthL]
 | cons a r ih=>rw[List.cons_append,depthL,depthL,ih];omega
theorem depthL_succ (K:List Tm)(j:Nat)(h:j<K.length):depthL (K.take (j+1))=max (depthL (K.take j)) (depth K[j]):=by
 rw[tsg h,depthL_append,depthL,depthL];omega
mutual
theorem depth_le_count:∀t:Tm,depth t≤count t
 | .mk o n m K=>by rw[depth,count];have:=depthL_le_count K;omega
theorem depthL_le_count:∀K:List Tm,depthL K≤countL K
 | []=>by simp[depthL]
 | k::r=>by rw[depthL,countL];have:=depth_le_count k;have:=depthL_le_count r;omega
end
theorem count16r_any {Q:Nat→Prop}:∀(d:Nat) (r:RT) (t:Tm) (w:World),TV Q w d r t→count t≤1099511627776 →
  Calls Tryz.prog 90 #[.agg #[I O r.op,I O r.num,I O r.more,.slice r.p r.n r.c]] w (RcG 40 (count t) w):=by
 intro d
 induction d using Nat.strongRecOn with
 | _ d ih =>
 intro r t w h hz;obtain⟨ro,rn,rm,rp,rl,rc⟩:=r;obtain⟨to_,tn,tm,K⟩:=t;have hat:TmsAt Q w d rp K:=h.at_;have hlen:rl=K.length:=h.is.n;have hn:=hat.len;rw[count_cons]at hz ⊢;simp only;subst hlen;have HT:=mh hat;have IH:=mh ih;clear h ih hat
 go_enter Tryz.func90,Tryz.ntmps90
 go_wp2
 go_loopw [3,9] (fun n i wr=>∃(j:Nat) (N:Int),j≤K.length∧i=I O j∧n=I O N∧RcOk 40 (1+countL (K.take j)) N∧Below w.heap.size w wr) (fun _ i _=>K.length - (intOf i).toNat)
 case atStart=>exact⟨0,1,Nat.zero_le _,rfl,rfl,⟨fun _=>by simp[countL],fun h=>by simp[countL]at h,by omega,by simp[countL]⟩,(brf _ _).alloc mle _⟩
 case round =>
  obtain⟨wo,rfl⟩:∃wo:World,wo=wr:=⟨_,rfl⟩;obtain⟨j,N,hj,rfl,rfl,hR,hb⟩:=hrel;have HB:=mh hb;have HR:=mh hR;have hj0:(0:Int)≤(j:Int):=inn _;have hct:=countL_take K j;have n1:1≤N:=hR.2.2.1;have n2:N≤1099511627776:=by have:=hR.2.2.2;omega
  clear hR
  by_cases hlt:j<K.length
  ·have hj1:(j:Int)<(K.length:Int):=by omega
   obtain⟨e,b,off,k,rfl,rfl,hbl,hc,hv⟩:=(HT.out.below hb).kid hlt;obtain⟨c0,c1,c2,c3⟩:=hc;have hkb:=countL_bd K j hlt;have CS:=mh (countL_succ K j hlt);have HK:=mh (fun (W:World) (hW:Below wo.heap.size wo W)=>IH.out e (by omega) k K[j] W (hv.below hW) (by omega));clear hv hb
   by_cases hm:N≤40
   ·have HK2:=mh (HK.out _ ((brf _ _).alloc mle (.cells #[I O k.op,I O k.num,I O k.more,.slice k.p k.n k.c] 28)))
    clear HK
    go_wp2_with (first|(go_at_call 90;(with_reducible refine cmo HK2.out ?_);rintro e w1 ⟨M,hM,rfl,hb1⟩;have m1:1≤M:=hM.2.2.1;have m2:M≤1099511627776:=(by have:=hM.2.2.2;omega);have HM:=mh hM;clear hM))
    go_roundw
    case rel=>exact⟨j+1,N+M,by omega,by go_num,rfl,by rw[CS.out,← Nat.add_assoc];exact HR.out.step (by omega) HM.out,bstep mle (balloc mle HB.out _) hb1⟩
    case measure=>simp[intOf];omega
   ·clear HK
    go_wp2
    go_roundw
    case rel=>exact⟨j+1,N,by omega,by go_num,rfl,by rw[CS.out,← Nat.add_assoc];exact HR.out.keep (by omega),balloc mle HB.out _⟩
    case measure=>simp[intOf];omega
  ·obtain rfl:j=K.length:=by omega
   rw[List.take_length]at HR;clear hb hct
   go_wp2
   go_ret
   exact⟨N,HR.out,rfl,HB.out⟩
theorem count17_any {Q:Nat→Prop}:∀(d:Nat) (r:RT) (t:Tm) (w:World),TV Q w d r t→count t≤1099511627776 →
  Calls Tryz.prog 5 #[.agg #[I O r.op,I O r.num,I O r.more,.slice r.p r.n r.c]] w (RcG 60 (count t) w):=by
 intro d
 induction d using Nat.strongRecOn with
 | _ d ih =>
 intro r t w h hz;obtain⟨ro,rn,rm,rp,rl,rc⟩:=r;obtain⟨to_,tn,tm,K⟩:=t;have hat:TmsAt Q w d rp K:=h.at_;have hlen:rl=K.length:=h.is.n;have hn:=hat.len;rw[count_cons]at hz ⊢;simp only;subst hlen;have HT:=mh hat;have IH:=mh ih;clear h ih hat
 go_enter Tryz.func5,Tryz.ntmps5
 go_wp2
 go_loopw [3,9] (fun n i wr=>∃(j:Nat) (N:Int),j≤K.length∧i=I O j∧n=I O N∧RcOk 60 (1+countL (K.take j)) N∧Below w.heap.size w wr) (fun _ i _=>K.length - (intOf i).toNat)
 case atStart=>exact⟨0,1,Nat.zero_le _,rfl,rfl,⟨fun _=>by simp[countL],fun h=>by simp[countL]at h,by omega,by simp[countL]⟩,(brf _ _).alloc mle _⟩
 case round =>
  obtain⟨wo,rfl⟩:∃wo:World,wo=wr:=⟨_,rfl⟩;obtain⟨j,N,hj,rfl,rfl,hR,hb⟩:=hrel;have HB:=mh hb;have HR:=mh hR;have hj0:(0:Int)≤(j:Int):=inn _;have hct:=countL_take K j;have n1:1≤N:=hR.2.2.1;have n2:N≤1099511627776:=by have:=hR.2.2.2;omega
  clear hR
  by_cases hlt:j<K.length
  ·have hj1:(j:Int)<(K.length:Int):=by omega
   obtain⟨e,b,off,k,rfl,rfl,hbl,hc,hv⟩:=(HT.out.below hb).kid hlt;obtain⟨c0,c1,c2,c3⟩:=hc;have hkb:=countL_bd K j hlt;have CS:=mh (countL_succ K j hlt);have HK:=mh (fun (W:World) (hW:Below wo.heap.size wo W)=>IH.out e (by omega) k K[j] W (hv.below hW) (by omega));clear hv hb
   by_cases hm:N≤60
   ·have HK2:=mh (HK.out _ ((brf _ _).alloc mle (.cells #[I O k.op,I O k.num,I O k.more,.slice k.p k.n k.c] 28)))
    clear HK
    go_wp2_with (first|(go_at_call 5;(with_reducible refine cmo HK2.out ?_);rintro e w1 ⟨M,hM,rfl,hb1⟩;have m1:1≤M:=hM.2.2.1;have m2:M≤1099511627776:=(by have:=hM.2.2.2;omega);have HM:=mh hM;clear hM))
    go_roundw
    case rel=>exact⟨j+1,N+M,by omega,by go_num,rfl,by rw[CS.out,← Nat.add_assoc];exact HR.out.step (by omega) HM.out,bstep mle (balloc mle HB.out _) hb1⟩
    case measure=>simp[intOf];omega
   ·clear HK
    go_wp2
    go_roundw
    case rel=>exact⟨j+1,N,by omega,by go_num,rfl,by rw[CS.out,← Nat.add_assoc];exact HR.out.keep (by omega),balloc mle HB.out _⟩
    case measure=>simp[intOf];omega
  ·obtain rfl:j=K.length:=by omega
   rw[List.take_length]at HR;clear hb hct
   go_wp2
   go_ret
   exact⟨N,HR.out,rfl,HB.out⟩
theorem depth16_any {Q:Nat→Prop}:∀(d:Nat) (r:RT) (t:Tm) (w:World),TV Q w d r t→count t≤1099511627776 →
  Calls Tryz.prog 91 #[.agg #[I O r.op,I O r.num,I O r.more,.slice r.p r.n r.c]] w (IntG (depth t:Int) w):=by
 intro d
 induction d using Nat.strongRecOn with
 | _ d ih =>
 intro r t w h hz;obtain⟨ro,rn,rm,rp,rl,rc⟩:=r;obtain⟨to_,tn,tm,K⟩:=t;have hat:TmsAt Q w d rp K:=h.at_;have hlen:rl=K.length:=h.is.n;have hn:=hat.len;rw[count_cons]at hz;rw[depth_cons];have hdc:=depthL_le_count K;simp only;subst hlen;have HT:=mh hat;have IH:=mh ih;clear h ih hat
 go_enter Tryz.func91,Tryz.ntmps91
 go_wp2
 go_loopw [3,9] (fun n i wr=>∃j:Nat,j≤K.length∧i=I O j∧n=I O (depthL (K.take j):Int)∧Below w.heap.size w wr) (fun _ i _=>K.length - (intOf i).toNat)
 case atStart=>exact⟨0,Nat.zero_le _,rfl,rfl,(brf _ _).alloc mle _⟩
 case round =>
  obtain⟨wo,rfl⟩:∃wo:World,wo=wr:=⟨_,rfl⟩;obtain⟨j,hj,rfl,rfl,hb⟩:=hrel;have HB:=mh hb;have hj0:(0:Int)≤(j:Int):=inn _
  by_cases hlt:j<K.length
  ·have hj1:(j:Int)<(K.length:Int):=by omega
   obtain⟨e,b,off,k,rfl,rfl,hbl,hc,hv⟩:=(HT.out.below hb).kid hlt;obtain⟨c0,c1,c2,c3⟩:=hc;have hkb:=countL_bd K j hlt;have CS:=mh (depthL_succ K j hlt);have HK:=mh (IH.out e (by omega) k K[j] _ (hv.below ((brf _ _).alloc mle (.cells #[I O k.op,I O k.num,I O k.more,.slice k.p k.n k.c] 28))) (by omega));clear hv hb;obtain⟨D,eD⟩:∃D,depth K[j]=D:=⟨_,rfl⟩;rw[eD]at CS HK;obtain⟨E,eE⟩:∃E,depthL (K.take j)=E:=⟨_,rfl⟩;rw[eE]at CS ⊢;clear eD eE
   by_cases hm:D≤E
   ·have HM:=mh (show depthL (K.take (j+1))=E by rw[CS.out];omega)
    have hm1:¬(E:Int)<(D:Int):=by omega
    go_wp2_with (first|(go_at_call 91;(with_reducible refine cmo HK.out ?_);rintro e w1 ⟨rfl,hb1⟩))
    go_roundw
    case rel=>exact⟨j+1,by omega,by go_num,by rw[HM.out];first|rfl|(congr 1;omega),bstep mle (balloc mle HB.out _) hb1⟩
    case measure=>simp[intOf];omega
   ·have HM:=mh (show depthL (K.take (j+1))=D by rw[CS.out];omega)
    have hm1:(E:Int)<(D:Int):=by omega
    go_wp2_with (first|(go_at_call 91;(with_reducible refine cmo HK.out ?_);rintro e w1 ⟨rfl,hb1⟩))
    go_roundw
    case rel=>exact⟨j+1,by omega,by go_num,by rw[HM.out];first|rfl|(congr 1;omega),bstep mle (balloc mle HB.out _) hb1⟩
    case measure=>simp[intOf];omega
  ·obtain rfl:j=K.length:=by omega
   rw[List.take_length];clear hb
   go_wp2
   go_ret
   exact⟨ret_int (by omega),HB.out⟩
def lowT (o:Int):Int:=if o=2 then 0 else if o=3 then 0 else if o=4 then 1 else if o=5 then 0 else if o=6 then 2 else if o=7∨o=8 then 1 else 0
def highT (o:Int):Int:=if o=2 then 39 else if o=3 then 40 else if o=4 then 16 else if o=5 then 15 else if o=6 then 10 else if o=7∨o=8 then 10 else 0
def hasT (o:Int):Bool:=decide (2≤o)&&decide (o≤8)
def leastT (o:Int):Int:=if o=9∨o=10 then 1 else if o=11 then 1 else 0
def mostT (o:Int):Int:=if o=9∨o=10 then 40 else if o=11 then 1 else 0
theorem self_split {o n m:Int}{k:Nat}(ho:1≤o)(ho2:o≤11) :
  (selfB o n m k&&decide (k≤40))=true↔(if hasT o=true then lowT o≤n∧n≤highT o else n=0)∧(o=4→single n=true)∧(if o=7 then single m=true else m=0)∧leastT o≤(k:Int)∧(k:Int)≤mostT o:=by
 have:o=1∨o=2∨o=3∨o=4∨o=5∨o=6∨o=7∨o=8∨o=9∨o=10∨o=11:=by omega
 have hs:single n=true→1≤n∧n≤16:=by
  unfold single;simp only[Bool.or_eq_true,beq_iff_eq];omega
 have hk:(k==1)=true↔k=1:=beq_iff_eq;have hk0:(k==0)=true↔k=0:=beq_iff_eq;have hn0:(n==0)=true↔n=0:=beq_iff_eq;have hm0:(m==0)=true↔m=0:=beq_iff_eq
 cases hsn:single n<;>cases hsm:single m<;>simp only[hsn,true_implies,Bool.false_eq_true,false_implies]at hs <;>
  (rcases this with rfl|rfl|rfl|rfl|rfl|rfl|rfl|rfl|rfl|rfl|rfl<;>simp[selfB,hasT,lowT,highT,leastT,mostT,hsn,hsm]<;>omega)
theorem right_fail {d:Nat}{o n m:Int}{K:List Tm}(h:(selfB o n m K.length&&decide (K.length≤40))=false):rightB (d+1) (.mk o n m K)=false:=by
 rw[rightB,h,Bool.false_and]
theorem right_self {d:Nat}{o n m:Int}{K:List Tm}(h:(selfB o n m K.length&&decide (K.length≤40))=true):rightB (d+1) (.mk o n m K)=K.all (rightB d):=by
 rw[rightB,h,Bool.true_and]
theorem self_out {o n m:Int}{k:Nat}(h:o<1∨11<o):(selfB o n m k&&decide (k≤40))=false:=by
 unfold selfB;rw[if_neg (by omega),if_neg (by omega),if_neg (by omega),if_neg (by omega),if_neg (by omega),if_neg (by omega),if_neg (by omega),if_neg (by omega),if_neg (by omega),if_neg (by omega)]
 rfl
theorem limits_any (o:Int)(w:World):Calls Tryz.prog 113 #[I O o] w fun e w' => e = .returned (.tuple #[I O (lowT o),I O (highT o),.bool (hasT o)])∧w=w' :=by
 by_cases h2:o=2
 ·subst h2
  go_enter Tryz.func113,Tryz.ntmps113
  go_wp2
  go_ret3
  exact⟨rfl,rfl⟩
 by_cases h3:o=3
 ·subst h3
  go_enter Tryz.func113,Tryz.ntmps113
  go_wp2
  go_ret3
  exact⟨rfl,rfl⟩
 by_cases h4:o=4
 ·subst h4
  go_enter Tryz.func113,Tryz.ntmps113
  go_wp2
  go_ret3
  exact⟨rfl,rfl⟩
 by_cases h5:o=5
 ·subst h5
  go_enter Tryz.func113,Tryz.ntmps113
  go_wp2
  go_ret3
  exact⟨rfl,rfl⟩
 by_cases h6:o=6
 ·subst h6
  go_enter Tryz.func113,Tryz.ntmps113
  go_wp2
  go_ret3
  exact⟨rfl,rfl⟩
 by_cases h7:o=7
 ·subst h7
  go_enter Tryz.func113,Tryz.ntmps113
  go_wp2
  go_ret3
  exact⟨rfl,rfl⟩
 by_cases h8:o=8
 ·subst h8
  go_enter Tryz.func113,Tryz.ntmps113
  go_wp2
  go_ret3
  exact⟨rfl,rfl⟩
 have e1:lowT o=0:=by unfold lowT;rw[if_neg h2,if_neg h3,if_neg h4,if_neg h5,if_neg h6,if_neg (by omega)]
 have e2:highT o=0:=by unfold highT;rw[if_neg h2,if_neg h3,if_neg h4,if_neg h5,if_neg h6,if_neg (by omega)]
 have e3:hasT o=false:=by unfold hasT;cases h:(decide (2≤o)&&decide (o≤8))<;>simp at h ⊢;omega
 rw[e1,e2,e3];clear e1 e2 e3
 go_enter Tryz.func113,Tryz.ntmps113
 go_wp2
 go_ret3
 exact⟨rfl,rfl⟩
theorem kids_any (o:Int)(w:World):Calls Tryz.prog 114 #[I O o] w fun e w' => e = .returned (.tuple #[I O (leastT o),I O (mostT o)])∧w=w' :=by
 by_cases h2:o=9
 ·subst h2
  go_enter Tryz.func114,Tryz.ntmps114
  go_wp2
  go_ret2
  exact⟨rfl,rfl⟩
 by_cases h3:o=10
 ·subst h3
  go_enter Tryz.func114,Tryz.ntmps114
  go_wp2
  go_ret2
  exact⟨rfl,rfl⟩
 by_cases h4:o=11
 ·subst h4
  go_enter Tryz.func114,Tryz.ntmps114
  go_wp2
  go_ret2
  exact⟨rfl,rfl⟩
 have e1:leastT o=0:=by unfold leastT;rw[if_neg (by omega),if_neg h4]
 have e2:mostT o=0:=by unfold mostT;rw[if_neg (by omega),if_neg h4]
 rw[e1,e2];clear e1 e2
 go_enter Tryz.func114,Tryz.ntmps114
 go_wp2
 go_ret2
 exact⟨rfl,rfl⟩
theorem single_any (n:Int)(w:World):Calls Tryz.prog 115 #[I O n] w fun e w' => e = .returned (.bool (single n))∧w=w' :=by
 by_cases h1:n<1
 ·have e:single n=false:=by
   unfold single;simp only[Bool.or_eq_false_iff,beq_eq_false_iff_ne];omega
  rw[e];clear e
  go_enter Tryz.func115,Tryz.ntmps115
  go_wp2
  go_ret
  exact⟨rfl,rfl⟩
 by_cases h2:16<n
 ·have e:single n=false:=by
   unfold single;simp only[Bool.or_eq_false_iff,beq_eq_false_iff_ne];omega
  rw[e];clear e
  go_enter Tryz.func115,Tryz.ntmps115
  go_wp2
  go_ret
  exact⟨rfl,rfl⟩
 have:n=1∨n=2∨n=3∨n=4∨n=5∨n=6∨n=7∨n=8∨n=9∨n=10∨n=11∨n=12∨n=13∨n=14∨n=15∨n=16:=by omega
 clear h1 h2
 rcases this with rfl|rfl|rfl|rfl|rfl|rfl|rfl|rfl|rfl|rfl|rfl|rfl|rfl|rfl|rfl|rfl
 all_goals
  go_enter Tryz.func115,Tryz.ntmps115
  go_wp2
  go_ret
  exact⟨by kernel_rfl,rfl⟩
def BoolG (b:Bool) (w:World) (e:Ending) (w' : World):Prop:=e = .returned (.bool b)∧Below w.heap.size w w'
def RightAt (Q:Nat→Prop) (D:Nat):Prop:=∀(d:Nat) (r:RT) (t:Tm) (w:World),TV Q w d r t →
    Calls Tryz.prog 89 #[.agg #[I O r.op,I O r.num,I O r.more,.slice r.p r.n r.c],I O (D:Int)] w (BoolG (rightB D t) w)
theorem rightp_any {Q:Nat→Prop}{D:Nat}(hD:D≤1000)(IH:RightAt Q D)(d:Nat)(r:RT)(t:Tm)(w:World)(bd:Nat)(h:TV Q w d r t)(hc:w.cell? ⟨bd,0,none⟩=some (I O ((D:Int)+1)))(hl:bd<w.heap.size) :
  Calls Tryz.prog 117 #[.agg #[I O r.op,I O r.num,I O r.more,.slice r.p r.n r.c],.pointer (some ⟨bd,0,none⟩)] w (BoolG (!rightB D t) w):=by
 have HI:=mh (IH d r t _ (h.below ((brf _ _).alloc mle (.cells #[I O r.op,I O r.num,I O r.more,.slice r.p r.n r.c] 28))));have hz:(D:Int)+1 - 1=(D:Int):=by omega
 clear IH h
 go_enter Tryz.func117,Tryz.ntmps117
 go_wp2_with (first|(go_at_call 89;(with_reducible refine cmo HI.out ?_);rintro e w1 ⟨rfl,hb1⟩))
 go_ret
 exact⟨rfl,bstep mle ((brf _ _).alloc mle _) hb1⟩
def IxG (b:Bool) (w:World) (e:Ending) (w' : World):Prop:=∃r:Int,e = .returned (I O r)∧decide (0≤r)=b ∧ -1≤r∧Below w.heap.size w w'
theorem indexterm_any {Q:Nat→Prop}{D:Nat}(hD:D≤1000)(IH:RightAt Q D)(d:Nat)(p:Option Addr)(K:List Tm)(cap bd:Nat)(w:World)(h:TmsAt Q w d p K)(hc:w.cell? ⟨bd,0,none⟩=some (I O ((D:Int)+1)))(hl:bd<w.heap.size) :
  Calls Tryz.prog 136 #[.slice p K.length cap,.func (.func 117) #[] #[.pointer (some ⟨bd,0,none⟩)]] w (IxG (K.any fun k => !rightB D k) w):=by
 have hn:=h.len;have H:=mh h;have HC:=mh hc;have HI:=mh IH;clear h hc IH
 go_enter Tryz.func136,Tryz.ntmps136
 go_wp2
 go_loopw [8] (fun i wr=>∃k:Nat,k≤K.length∧i=I O k∧(K.take k).any (fun k => !rightB D k)=false∧Below w.heap.size w wr) (fun i _=>K.length - (intOf i).toNat)
 case atStart=>exact⟨0,Nat.zero_le _,rfl,rfl,brf _ _⟩
 case round =>
  obtain⟨wo,rfl⟩:∃wo:World,wo=wr:=⟨_,rfl⟩;obtain⟨k,hk,rfl,ha,hb⟩:=hrel;have HA:=mh ha;have HB:=mh hb;have hsz:=hb.size;have hk0:(0:Int)≤(k:Int):=inn _
  by_cases hlt:k<K.length
  ·have hk1:(k:Int)<(K.length:Int):=by omega
   obtain⟨e,b,off,r,rfl,rfl,hbl,hcs,hv⟩:=(H.out.below hb).kid hlt;have CN:=mh (rightp_any hD HI.out e r K[k] wo bd hv ((hb.cell (p:=⟨bd,0,none⟩) hl).trans HC.out) (by omega))
   have HS:=mh (show(K.take (k+1)).any (fun k => !rightB D k) = !rightB D K[k] by
    rw[tsg hlt,List.any_append,HA.out,Bool.false_or];simp)
   have HM:=mh (show(!rightB D K[k])=true→K.any (fun k => !rightB D k)=true from fun e=>List.any_eq_true.2 ⟨K[k],List.getElem_mem hlt,e⟩);obtain⟨bb,ebb⟩:∃x,(!rightB D K[k])=x:=⟨_,rfl⟩;rw[ebb]at HS HM CN;obtain⟨c0,c1,c2,c3⟩:=hcs;clear ha hb hv ebb
   cases bb
   ·go_wp2_with (first|(go_at_call 117;(with_reducible refine cmo CN.out ?_);rintro e w1 ⟨rfl,hb1⟩))
    go_roundw
    case rel=>exact⟨k+1,by omega,by go_num,HS.out,bstep mle HB.out hb1⟩
    case measure=>simp[intOf];omega
   ·go_wp2_with (first|(go_at_call 117;(with_reducible refine cmo CN.out ?_);rintro e w1 ⟨rfl,hb1⟩))
    go_ret
    exact⟨(k:Int),rfl,by rw[HM.out trivial];exact dqt hk0,by omega,bstep mle HB.out hb1⟩
  ·obtain rfl:k=K.length:=by omega
   rw[List.take_of_length_le mle]at ha;have HA2:=mh ha;clear ha hb
   go_wp2
   go_ret
   exact⟨-1,rfl,by rw[HA2.out];rfl,by omega,HB.out⟩
theorem containsterm_any {Q:Nat→Prop}{D:Nat}(hD:D≤1000)(IH:RightAt Q D)(d:Nat)(p:Option Addr)(K:List Tm)(cap bd:Nat)(w:World)(h:TmsAt Q w d p K)(hc:w.cell? ⟨bd,0,none⟩=some (I O ((D:Int)+1)))(hl:bd<w.heap.size) :
  Calls Tryz.prog 116 #[.slice p K.length cap,.func (.func 117) #[] #[.pointer (some ⟨bd,0,none⟩)]] w (BoolG (K.any fun k => !rightB D k) w):=by
 have CI:=mh (indexterm_any hD IH d p K cap bd w h hc hl);clear h hc IH
 go_enter Tryz.func116,Tryz.ntmps116
 go_wp2_with (first|(go_at_call 136;(with_reducible refine cmo CI.out ?_);rintro e w1 ⟨r,rfl,hr,hr1,hb⟩;have HR:=mh hr;clear hr))
 go_ret
 exact⟨ret_bool HR.out,hb⟩
theorem right_zero (Q:Nat→Prop):RightAt Q 0:=by
 intro d r t w h;have e:rightB 0 t=false:=by rw[rightB]
 rw[e];clear e h;obtain⟨o,n,m,p,l,c⟩:=r;have LM:=mh (fun W=>limits_any o W);have KD:=mh (fun W=>kids_any o W);obtain⟨lo,elo⟩:∃x,lowT o=x:=⟨_,rfl⟩;obtain⟨hi,ehi⟩:∃x,highT o=x:=⟨_,rfl⟩;obtain⟨hs,ehs⟩:∃x,hasT o=x:=⟨_,rfl⟩;obtain⟨le,ele⟩:∃x,leastT o=x:=⟨_,rfl⟩;obtain⟨mo,emo⟩:∃x,mostT o=x:=⟨_,rfl⟩;rw[elo,ehi,ehs]at LM;rw[ele,emo]at KD;clear elo ehi ehs ele emo;simp only
 by_cases h1:o<1
 ·go_enter Tryz.func89,Tryz.ntmps89
  go_wp2_with (first|(go_at_call 113;(with_reducible refine cmo (LM.out _) ?_);rintro e w1 ⟨rfl,rfl⟩)|(go_at_call 114;(with_reducible refine cmo (KD.out _) ?_);rintro e w1 ⟨rfl,rfl⟩))
  go_ret
  exact⟨rfl,by go_grown⟩
 by_cases h2:11<o
 ·go_enter Tryz.func89,Tryz.ntmps89
  go_wp2_with (first|(go_at_call 113;(with_reducible refine cmo (LM.out _) ?_);rintro e w1 ⟨rfl,rfl⟩)|(go_at_call 114;(with_reducible refine cmo (KD.out _) ?_);rintro e w1 ⟨rfl,rfl⟩))
  go_ret
  exact⟨rfl,by go_grown⟩
 ·go_enter Tryz.func89,Tryz.ntmps89
  go_wp2_with (first|(go_at_call 113;(with_reducible refine cmo (LM.out _) ?_);rintro e w1 ⟨rfl,rfl⟩)|(go_at_call 114;(with_reducible refine cmo (KD.out _) ?_);rintro e w1 ⟨rfl,rfl⟩))
  go_ret
  exact⟨rfl,by go_grown⟩
open Sc
theorem brB_bad {l:List Brk}{k:Nat}(hk:k<l.length)(h:brAt l k=false):brB l=false:=by
 unfold brB
 cases e:brAll l l.length with
 | false=>rfl
 | true =>
   have:=brAll_mono (show k+1≤l.length by omega) e;rw[brAll_succ,h,Bool.and_false]at this
   cases this
theorem brAt_parts {l:List Brk}{k:Nat}(hk:k<l.length){up rate prev:Int}(e:l[k]=⟨up,rate⟩)(hp:upB l k=prev) :
  (up≤prev∨268435456<up∨rate<0∨1048576<rate→brAt l k=false)∧(prev<up→up≤268435456→0≤rate→rate≤1048576→brAt l k=true):=by
 rw[brAt_some hk,e,hp]
 constructor
 ·intro h
  rw[Bool.eq_false_iff];intro h2;simp only[Bool.and_eq_true,decide_eq_true_eq]at h2;omega
 ·intro h1 h2 h3 h4
  simp only[Bool.and_eq_true,decide_eq_true_eq];exact⟨h1,h2,h3,h4⟩
theorem brackets_any (p:Option Addr)(l:List Brk)(n c:Nat)(w:World)(hn:n=l.length)(h:Recs SBk w p l):Calls Tryz.prog 51 #[.slice p n c] w (BoolG (brB l) w):=by
 subst hn;have hl:=h.len;have H:=mh h;clear h
 go_enter Tryz.func51,Tryz.ntmps51
 go_wp2
 go_loopw [7] (fun i wr=>∃k:Nat,k≤l.length∧i=I O k∧brAll l k=true∧Below w.heap.size w wr) (fun i _=>l.length - (intOf i).toNat)
 case atStart=>exact⟨0,Nat.zero_le _,rfl,rfl,brf _ _⟩
 case round =>
  obtain⟨wo,rfl⟩:∃wo:World,wo=wr:=⟨_,rfl⟩;obtain⟨k,hk,rfl,ha,hb⟩:=hrel;have HA:=mh ha;have HB:=mh hb;have hk0:(0:Int)≤(k:Int):=inn _
  by_cases hlt:k<l.length
  ·have hk1:(k:Int)<(l.length:Int):=by omega
   obtain⟨b,off,x,rfl,hbl,x0,x1,hx⟩:=SBk_at (H.out.below hb) hlt;have HH:=mh (H.out.below hb);obtain⟨up,rate⟩:=x;simp only at x0 x1;obtain⟨prev,ep⟩:∃pv,upB l k=pv:=⟨_,rfl⟩;have hpv:0≤prev:=by rw[← ep];exact upB_nonneg hk ha
   obtain⟨bad,good⟩:=brAt_parts hlt hx.out ep;have BAD:=mh (fun h=>brB_bad hlt (bad h));have GOOD:=mh (fun h1 h2 h3 h4=>(show brAll l (k+1)=true by rw[brAll_succ,HA.out,good h1 h2 h3 h4];rfl));have HP:=mh ep;have HB1:=mh (balloc mle HB.out (.cells #[I O up,I O rate] 54));clear ha hb hx ep bad good
   by_cases g1:up<1
   ·have HV:=mh (BAD.out (.inl (by omega)))
    have d1:decide (up<1)=true:=dqt g1;clear g1
    go_wp2_with fail
    go_quiet (fail)
    go_wp2
    go_ret
    exact⟨ret_bool HV.out.symm,HB1.out.trans ((drewN_below _ _).mono HB1.out.size)⟩
   have d1:decide (up<1)=false:=dqf g1
   by_cases g2:268435456<up
   ·have HV:=mh (BAD.out (.inr (.inl g2)))
    have d2:decide (268435456<up)=true:=dqt g2;clear g1 g2
    go_wp2_with fail
    go_quiet (fail)
    go_wp2
    go_ret
    exact⟨ret_bool HV.out.symm,HB1.out.trans ((drewN_below _ _).mono HB1.out.size)⟩
   have d2:decide (268435456<up)=false:=dqf g2
   by_cases g3:rate<0
   ·have HV:=mh (BAD.out (.inr (.inr (.inl g3))))
    have d3:decide (rate<0)=true:=dqt g3;clear g1 g2 g3
    go_wp2_with fail
    go_quiet (fail)
    go_wp2
    go_ret
    exact⟨ret_bool HV.out.symm,HB1.out.trans ((drewN_below _ _).mono HB1.out.size)⟩
   have d3:decide (rate<0)=false:=dqf g3
   by_cases g4:1048576<rate
   ·have HV:=mh (BAD.out (.inr (.inr (.inr g4))))
    have d4:decide (1048576<rate)=true:=dqt g4;clear g1 g2 g3 g4
    go_wp2_with fail
    go_quiet (fail)
    go_wp2
    go_ret
    exact⟨ret_bool HV.out.symm,HB1.out.trans ((drewN_below _ _).mono HB1.out.size)⟩
   have d4:decide (1048576<rate)=false:=dqf g4
   rcases Nat.eq_zero_or_pos k with hk00|hkp
   ·have hk2:decide (0<k)=false:=by rw[decide_eq_false_iff_not];omega
    have hp0:prev=0:=by rw[← HP.out,hk00];rfl
    have HN:=mh (GOOD.out (by omega) (by omega) (by omega) (by omega));clear hk00 hp0 g1 g2 g3 g4
    go_wp2_with fail
    go_quiet (fail)
    go_wp2
    go_roundw
    case rel=>exact⟨k+1,by omega,by go_num,HN.out,HB1.out.trans ((drewN_below _ _).mono HB1.out.size)⟩
    case measure=>simp[intOf];omega
   ·obtain⟨m,rfl⟩:∃m,k=m+1:=⟨k - 1,by omega⟩
    obtain⟨b', off', y,ey, -,y0, -,hy⟩:=SBk_at HH.out (show m<l.length by omega)
    cases ey
    have hyp:y.up=prev:=by rw[← HP.out,upB_succ (show m<l.length by omega),hy.out]
    obtain⟨yu,yr⟩:=y;simp only at y0 hyp;subst hyp;clear hy
    by_cases g5:up≤yu
    ·have HV:=mh (BAD.out (.inl g5))
     have d5:decide (up≤yu)=true:=dqt g5;clear g1 g2 g3 g4 g5
     go_wp2_with fail
     go_quiet (fail)
     go_wp2
     go_ret
     exact⟨ret_bool HV.out.symm,HB1.out.trans ((drewN_below _ _).mono HB1.out.size)⟩
    ·have HN:=mh (GOOD.out (by omega) (by omega) (by omega) (by omega))
     have d5:decide (up≤yu)=false:=dqf g5;clear g1 g2 g3 g4 g5
     go_wp2_with fail
     go_quiet (fail)
     go_wp2
     go_roundw
     case rel=>exact⟨m+1+1,by omega,by go_num,HN.out,HB1.out.trans ((drewN_below _ _).mono HB1.out.size)⟩
     case measure=>simp[intOf];omega
  ·obtain rfl:k=l.length:=by omega
   clear hb
   by_cases g1:(l.length:Int)<1
   ·have HV:=mh (show brB l=false by
     unfold brB;rw[dqf (show ¬1≤l.length by omega)];simp)
    clear ha
    go_wp2
    go_ret
    exact⟨ret_bool HV.out.symm,HB.out⟩
   by_cases g2:(6:Int)<(l.length:Int)
   ·have HV:=mh (show brB l=false by
     unfold brB;rw[dqf (show ¬l.length≤6 by omega)];simp)
    clear ha
    go_wp2
    go_ret
    exact⟨ret_bool (by rw[HV.out];first|rfl|exact dqf (by omega)),HB.out⟩
   ·have HV:=mh (show brB l=true by
     unfold brB;rw[ha,dqt (show 1≤l.length by omega),dqt (show l.length≤6 by omega)];rfl)
    clear ha
    go_wp2
    go_ret
    exact⟨ret_bool (by rw[HV.out]),HB.out⟩
theorem refbrackets_any (p:Option Addr)(l:List Brk)(n c:Nat)(w:World)(hn:n=l.length)(h:Recs SBk w p l):Calls Tryz.prog 54 #[.slice p n c] w (BoolG (brB l) w):=by
 subst hn;have hl:=h.len
 by_cases g1:(l.length:Int)<1
 ·have HV:=mh (show brB l=false by
   unfold brB;rw[dqf (show ¬1≤l.length by omega)];simp)
  clear h
  go_enter Tryz.func54,Tryz.ntmps54
  go_wp2
  go_ret
  exact⟨ret_bool HV.out.symm,brf _ _⟩
 by_cases g2:(6:Int)<(l.length:Int)
 ·have HV:=mh (show brB l=false by
   unfold brB;rw[dqf (show ¬l.length≤6 by omega)];simp)
  clear h
  go_enter Tryz.func54,Tryz.ntmps54
  go_wp2
  go_ret
  exact⟨ret_bool HV.out.symm,brf _ _⟩
 have H:=mh h
 have EV:=mh (show brAll l l.length=true→brB l=true from fun ha=>by
  unfold brB;rw[ha,dqt (show 1≤l.length by omega),dqt (show l.length≤6 by omega)];rfl)
 clear h
 go_enter Tryz.func54,Tryz.ntmps54
 go_wp2
 go_loopw [3,16] (fun u i wr=>∃k:Nat,k≤l.length∧i=I O k∧u=I O (upB l k)∧brAll l k=true∧Below w.heap.size w wr) (fun _ i _=>l.length - (intOf i).toNat)
 case atStart=>exact⟨0,Nat.zero_le _,rfl,rfl,rfl,brf _ _⟩
 case round =>
  obtain⟨wo,rfl⟩:∃wo:World,wo=wr:=⟨_,rfl⟩;obtain⟨k,hk,rfl,rfl,ha,hb⟩:=hrel;have HA:=mh ha;have HB:=mh hb;have hk0:(0:Int)≤(k:Int):=inn _
  by_cases hlt:k<l.length
  ·have hk1:(k:Int)<(l.length:Int):=by omega
   obtain⟨b,off,x,rfl,hbl,x0,x1,hx⟩:=SBk_at (H.out.below hb) hlt;obtain⟨up,rate⟩:=x;simp only at x0 x1;obtain⟨prev,ep⟩:∃pv,upB l k=pv:=⟨_,rfl⟩;rw[ep];obtain⟨bad,good⟩:=brAt_parts hlt hx.out ep;have BAD:=mh (fun h=>brB_bad hlt (bad h));have GOOD:=mh (fun h1 h2 h3 h4=>(show brAll l (k+1)=true by rw[brAll_succ,HA.out,good h1 h2 h3 h4];rfl));have HN1:=mh (show upB l (k+1)=up by rw[upB_succ hlt,hx.out]);have HB1:=mh (balloc mle HB.out (.cells #[I O up,I O rate] 54));clear ha hb hx ep bad good
   by_cases g1:up≤prev
   ·have HV:=mh (BAD.out (.inl g1))
    go_wp2
    go_ret
    exact⟨ret_bool HV.out.symm,HB1.out⟩
   by_cases g2:268435456<up
   ·have HV:=mh (BAD.out (.inr (.inl g2)))
    go_wp2
    go_ret
    exact⟨ret_bool HV.out.symm,HB1.out⟩
   by_cases g3:rate<0
   ·have HV:=mh (BAD.out (.inr (.inr (.inl g3))))
    go_wp2
    go_ret
    exact⟨ret_bool HV.out.symm,HB1.out⟩
   by_cases g4:1048576<rate
   ·have HV:=mh (BAD.out (.inr (.inr (.inr g4))))
    go_wp2
    go_ret
    exact⟨ret_bool HV.out.symm,HB1.out⟩
   ·have HN:=mh (GOOD.out (by omega) (by omega) (by omega) (by omega))
    go_wp2
    go_roundw
    case rel=>exact⟨k+1,by omega,by go_num,by rw[HN1.out],HN.out,HB1.out⟩
    case measure=>simp[intOf];omega
  ·obtain rfl:k=l.length:=by omega
   have HV:=mh (EV.out ha);clear hb ha
   go_wp2
   go_ret
   exact⟨ret_bool HV.out.symm,HB.out⟩
theorem hasT_mark (o:Int):(o=4→hasT o=true)∧(o=7→hasT o=true):=by
 constructor<;>(rintro rfl;rfl)
theorem right_succ {Q:Nat→Prop}{D:Nat}(hD:D≤1000)(IH:RightAt Q D):RightAt Q (D+1):=by
 intro d r t w h;obtain⟨o,n,m,p,l,c⟩:=r;obtain⟨to_,tn,tm,K⟩:=t;obtain rfl:o=to_:=h.is.op;obtain rfl:n=tn:=h.is.num;obtain rfl:m=tm:=h.is.more;have hat:TmsAt Q w d p K:=h.at_;have hlen:l=K.length:=h.is.n;have hn:=hat.len;have eD:((D+1:Nat):Int)=(D:Int)+1:=by omega
 rw[eD];clear eD;simp only;subst hlen;have hD0:(0:Int)≤(D:Int):=inn _;have hD1:((D:Int)+1==0)=false:=beq_eq_false_iff_ne.2 (by omega);have hD2:¬(D:Int)+1=0:=by omega
 have F0:=mh (fun (h:(selfB o n m K.length&&decide (K.length≤40))=false)=>right_fail (d:=D) (o:=o) (n:=n) (m:=m) (K:=K) h);have F1:=mh (fun (h:(selfB o n m K.length&&decide (K.length≤40))=true)=>(right_self (d:=D) (o:=o) (n:=n) (m:=m) (K:=K) h).trans (show K.all (rightB D) = !(K.any fun k => !rightB D k) by rw[← List.all_eq_not_any_not]));have LM:=mh (fun W=>limits_any o W);have KD:=mh (fun W=>kids_any o W);have SG0:=mh (fun x W=>single_any x W);have HM:=mh (hasT_mark o);have HO:=mh (fun h=>self_out (o:=o) (n:=n) (m:=m) (k:=K.length) h);have SP0:=mh (fun h1 h2=>self_split (o:=o) (n:=n) (m:=m) (k:=K.length) h1 h2);obtain⟨B,eB⟩:∃x,(selfB o n m K.length&&decide (K.length≤40))=x:=⟨_,rfl⟩;obtain⟨lo,elo⟩:∃x,lowT o=x:=⟨_,rfl⟩;obtain⟨hi,ehi⟩:∃x,highT o=x:=⟨_,rfl⟩;obtain⟨hs,ehs⟩:∃x,hasT o=x:=⟨_,rfl⟩;obtain⟨le,ele⟩:∃x,leastT o=x:=⟨_,rfl⟩;obtain⟨mo,emo⟩:∃x,mostT o=x:=⟨_,rfl⟩;obtain⟨V,eV⟩:∃x,rightB (D+1) (.mk o n m K)=x:=⟨_,rfl⟩;rw[eB]at F0 F1 HO SP0;rw[elo,ehi,ehs]at LM;rw[ele,emo]at KD;rw[elo,ehi,ehs,ele,emo]at SP0;rw[ehs]at HM;rw[eV]at F0 F1 ⊢;obtain⟨H,eH⟩:∃x:World,x=(w.alloc (.cells #[I O o,I O n,I O m,.slice p K.length c] 28)).alloc (.cells #[I O ((D:Int)+1)] 3):=⟨_,rfl⟩;have HB0:=mh (show Below w.heap.size w ((w.alloc (.cells #[I O o,I O n,I O m,.slice p K.length c] 28)).alloc (.cells #[I O ((D:Int)+1)] 3)) from((brf _ _).alloc mle _).alloc (by simp) _);have CF:=mh (containsterm_any hD IH d p K c (w.heap.size+1) _ (hat.below HB0.out) (by rw[show w.heap.size+1=(w.alloc (.cells #[I O o,I O n,I O m,.slice p K.length c] 28)).heap.size by simp];exact cwn _ _ _ 0) (by simp));obtain⟨AN,eAN⟩:∃x,(K.any fun k => !rightB D k)=x:=⟨_,rfl⟩;rw[eAN]at CF F1;clear h IH hat eB elo ehi ehs ele emo eV eH eAN
 by_cases h1:o<1
 ·have HV:=mh (F0.out (HO.out (.inl h1)))
  have SG:=SG0
  go_enter Tryz.func89,Tryz.ntmps89
  go_wp2_with (first|(go_at_call 113;(with_reducible refine cmo (LM.out _) ?_);rintro e w1 ⟨rfl,rfl⟩)|(go_at_call 114;(with_reducible refine cmo (KD.out _) ?_);rintro e w1 ⟨rfl,rfl⟩)|(go_at_call 115;(with_reducible refine cmo (SG.out _) ?_);rintro e w1 ⟨rfl,rfl⟩))
  go_ret
  exact⟨by rw[HV.out];rfl,by go_grown⟩
 by_cases h2:11<o
 ·have HV:=mh (F0.out (HO.out (.inr h2)))
  have SG:=SG0
  go_enter Tryz.func89,Tryz.ntmps89
  go_wp2_with (first|(go_at_call 113;(with_reducible refine cmo (LM.out _) ?_);rintro e w1 ⟨rfl,rfl⟩)|(go_at_call 114;(with_reducible refine cmo (KD.out _) ?_);rintro e w1 ⟨rfl,rfl⟩)|(go_at_call 115;(with_reducible refine cmo (SG.out _) ?_);rintro e w1 ⟨rfl,rfl⟩))
  go_ret
  exact⟨by rw[HV.out];rfl,by go_grown⟩
 have SP:=mh (SP0.out (by omega) (by omega));clear SP0 HO
 cases hs
 ·have h4:¬o=4:=fun e=>by have:=HM.out.1 e;cases this
  have h7:¬o=7:=fun e=>by have:=HM.out.2 e;cases this
  have h4b:(o==4)=false:=beq_eq_false_iff_ne.2 h4;have h7b:(o==7)=false:=beq_eq_false_iff_ne.2 h7;have h7c:(o != 7)=true:=bne_iff_ne.2 h7;have SG:=SG0
  by_cases hn0:n=0
  rotate_left
  ·have hnb:(n != 0)=true:=bne_iff_ne.2 hn0
   have HV:=mh (F0.out (Bool.eq_false_iff.2 fun e=>by obtain⟨a1,a2,a3,a4,a5⟩:=SP.out.1 e;exact absurd a1 hn0))
   go_enter Tryz.func89,Tryz.ntmps89
   go_wp2_with (first|(go_at_call 113;(with_reducible refine cmo (LM.out _) ?_);rintro e w1 ⟨rfl,rfl⟩)|(go_at_call 114;(with_reducible refine cmo (KD.out _) ?_);rintro e w1 ⟨rfl,rfl⟩)|(go_at_call 115;(with_reducible refine cmo (SG.out _) ?_);rintro e w1 ⟨rfl,rfl⟩))
   go_ret
   exact⟨by rw[HV.out];rfl,by go_grown⟩
  subst hn0
  by_cases hm0:m=0
  rotate_left
  ·have hmb:(m != 0)=true:=bne_iff_ne.2 hm0
   have HV:=mh (F0.out (Bool.eq_false_iff.2 fun e=>by obtain⟨a1,a2,a3,a4,a5⟩:=SP.out.1 e;rw[if_neg h7]at a3;exact hm0 a3))
   go_enter Tryz.func89,Tryz.ntmps89
   go_wp2_with (first|(go_at_call 113;(with_reducible refine cmo (LM.out _) ?_);rintro e w1 ⟨rfl,rfl⟩)|(go_at_call 114;(with_reducible refine cmo (KD.out _) ?_);rintro e w1 ⟨rfl,rfl⟩)|(go_at_call 115;(with_reducible refine cmo (SG.out _) ?_);rintro e w1 ⟨rfl,rfl⟩))
   go_ret
   exact⟨by rw[HV.out];rfl,by go_grown⟩
  subst hm0
  by_cases g1:(K.length:Int)<le
  ·have HV:=mh (F0.out (Bool.eq_false_iff.2 fun e=>by obtain⟨a1,a2,a3,a4,a5⟩:=SP.out.1 e;omega))
   go_enter Tryz.func89,Tryz.ntmps89
   go_wp2_with (first|(go_at_call 113;(with_reducible refine cmo (LM.out _) ?_);rintro e w1 ⟨rfl,rfl⟩)|(go_at_call 114;(with_reducible refine cmo (KD.out _) ?_);rintro e w1 ⟨rfl,rfl⟩)|(go_at_call 115;(with_reducible refine cmo (SG.out _) ?_);rintro e w1 ⟨rfl,rfl⟩))
   go_ret
   exact⟨by rw[HV.out];rfl,by go_grown⟩
  by_cases g2:mo<(K.length:Int)
  ·have HV:=mh (F0.out (Bool.eq_false_iff.2 fun e=>by obtain⟨a1,a2,a3,a4,a5⟩:=SP.out.1 e;omega))
   go_enter Tryz.func89,Tryz.ntmps89
   go_wp2_with (first|(go_at_call 113;(with_reducible refine cmo (LM.out _) ?_);rintro e w1 ⟨rfl,rfl⟩)|(go_at_call 114;(with_reducible refine cmo (KD.out _) ?_);rintro e w1 ⟨rfl,rfl⟩)|(go_at_call 115;(with_reducible refine cmo (SG.out _) ?_);rintro e w1 ⟨rfl,rfl⟩))
   go_ret
   exact⟨by rw[HV.out];rfl,by go_grown⟩
  have HV:=mh (F1.out (SP.out.2 ⟨by simp,by simp_all,by simp_all,by omega,by omega⟩))
  go_enter Tryz.func89,Tryz.ntmps89
  go_wp2_with (first|(go_at_call 113;(with_reducible refine cmo (LM.out _) ?_);rintro e w1 ⟨rfl,rfl⟩)|(go_at_call 114;(with_reducible refine cmo (KD.out _) ?_);rintro e w1 ⟨rfl,rfl⟩)|(go_at_call 115;(with_reducible refine cmo (SG.out _) ?_);rintro e w1 ⟨rfl,rfl⟩)|(go_at_call 116;(with_reducible refine cmo CF.out ?_);rintro e w1 ⟨rfl,hb1⟩))
  go_ret
  exact⟨ret_bool HV.out.symm,HB0.out.trans (hb1.mono (by simp;omega))⟩
 ·by_cases f1:n<lo
  ·have HV:=mh (F0.out (Bool.eq_false_iff.2 fun e=>by obtain⟨a1,a2,a3,a4,a5⟩:=SP.out.1 e;rw[if_pos rfl]at a1;omega))
   go_enter Tryz.func89,Tryz.ntmps89
   go_wp2_with (first|(go_at_call 113;(with_reducible refine cmo (LM.out _) ?_);rintro e w1 ⟨rfl,rfl⟩)|(go_at_call 114;(with_reducible refine cmo (KD.out _) ?_);rintro e w1 ⟨rfl,rfl⟩)|(go_at_call 115;(with_reducible refine cmo (SG.out _) ?_);rintro e w1 ⟨rfl,rfl⟩))
   go_ret
   exact⟨by rw[HV.out];rfl,by go_grown⟩
  by_cases f2:hi<n
  ·have HV:=mh (F0.out (Bool.eq_false_iff.2 fun e=>by obtain⟨a1,a2,a3,a4,a5⟩:=SP.out.1 e;rw[if_pos rfl]at a1;omega))
   go_enter Tryz.func89,Tryz.ntmps89
   go_wp2_with (first|(go_at_call 113;(with_reducible refine cmo (LM.out _) ?_);rintro e w1 ⟨rfl,rfl⟩)|(go_at_call 114;(with_reducible refine cmo (KD.out _) ?_);rintro e w1 ⟨rfl,rfl⟩)|(go_at_call 115;(with_reducible refine cmo (SG.out _) ?_);rintro e w1 ⟨rfl,rfl⟩))
   go_ret
   exact⟨by rw[HV.out];rfl,by go_grown⟩
  by_cases h4:o=4
  ·subst h4
   have SG:=mh (SG0.out n);obtain⟨sn,esn⟩:∃x,single n=x:=⟨_,rfl⟩;rw[esn]at SG SP;clear esn
   cases sn
   ·have HV:=mh (F0.out (Bool.eq_false_iff.2 fun e=>by obtain⟨a1,a2,a3,a4,a5⟩:=SP.out.1 e;cases a2 rfl))
    go_enter Tryz.func89,Tryz.ntmps89
    go_wp2_with (first|(go_at_call 113;(with_reducible refine cmo (LM.out _) ?_);rintro e w1 ⟨rfl,rfl⟩)|(go_at_call 114;(with_reducible refine cmo (KD.out _) ?_);rintro e w1 ⟨rfl,rfl⟩)|(go_at_call 115;(with_reducible refine cmo (SG.out _) ?_);rintro e w1 ⟨rfl,rfl⟩))
    go_ret
    exact⟨by rw[HV.out];rfl,by go_grown⟩
   by_cases hm0:m=0
   rotate_left
   ·have hmb:(m != 0)=true:=bne_iff_ne.2 hm0
    have HV:=mh (F0.out (Bool.eq_false_iff.2 fun e=>by obtain⟨a1,a2,a3,a4,a5⟩:=SP.out.1 e;rw[if_neg (by decide)]at a3;exact hm0 a3))
    go_enter Tryz.func89,Tryz.ntmps89
    go_wp2_with (first|(go_at_call 113;(with_reducible refine cmo (LM.out _) ?_);rintro e w1 ⟨rfl,rfl⟩)|(go_at_call 114;(with_reducible refine cmo (KD.out _) ?_);rintro e w1 ⟨rfl,rfl⟩)|(go_at_call 115;(with_reducible refine cmo (SG.out _) ?_);rintro e w1 ⟨rfl,rfl⟩))
    go_ret
    exact⟨by rw[HV.out];rfl,by go_grown⟩
   subst hm0
   by_cases g1:(K.length:Int)<le
   ·have HV:=mh (F0.out (Bool.eq_false_iff.2 fun e=>by obtain⟨a1,a2,a3,a4,a5⟩:=SP.out.1 e;omega))
    go_enter Tryz.func89,Tryz.ntmps89
    go_wp2_with (first|(go_at_call 113;(with_reducible refine cmo (LM.out _) ?_);rintro e w1 ⟨rfl,rfl⟩)|(go_at_call 114;(with_reducible refine cmo (KD.out _) ?_);rintro e w1 ⟨rfl,rfl⟩)|(go_at_call 115;(with_reducible refine cmo (SG.out _) ?_);rintro e w1 ⟨rfl,rfl⟩))
    go_ret
    exact⟨by rw[HV.out];rfl,by go_grown⟩
   by_cases g2:mo<(K.length:Int)
   ·have HV:=mh (F0.out (Bool.eq_false_iff.2 fun e=>by obtain⟨a1,a2,a3,a4,a5⟩:=SP.out.1 e;omega))
    go_enter Tryz.func89,Tryz.ntmps89
    go_wp2_with (first|(go_at_call 113;(with_reducible refine cmo (LM.out _) ?_);rintro e w1 ⟨rfl,rfl⟩)|(go_at_call 114;(with_reducible refine cmo (KD.out _) ?_);rintro e w1 ⟨rfl,rfl⟩)|(go_at_call 115;(with_reducible refine cmo (SG.out _) ?_);rintro e w1 ⟨rfl,rfl⟩))
    go_ret
    exact⟨by rw[HV.out];rfl,by go_grown⟩
   have HV:=mh (F1.out (SP.out.2 ⟨by first|simpa using ⟨by omega,by omega⟩|simp_all,by simp_all,by simp_all,by omega,by omega⟩))
   go_enter Tryz.func89,Tryz.ntmps89
   go_wp2_with (first|(go_at_call 113;(with_reducible refine cmo (LM.out _) ?_);rintro e w1 ⟨rfl,rfl⟩)|(go_at_call 114;(with_reducible refine cmo (KD.out _) ?_);rintro e w1 ⟨rfl,rfl⟩)|(go_at_call 115;(with_reducible refine cmo (SG.out _) ?_);rintro e w1 ⟨rfl,rfl⟩)|(go_at_call 116;(with_reducible refine cmo CF.out ?_);rintro e w1 ⟨rfl,hb1⟩))
   go_ret
   exact⟨ret_bool HV.out.symm,HB0.out.trans (hb1.mono (by simp;omega))⟩
  by_cases h7:o=7
  ·subst h7
   have SG:=mh (SG0.out m);obtain⟨sn,esn⟩:∃x,single m=x:=⟨_,rfl⟩;rw[esn]at SG SP;clear esn
   cases sn
   ·have HV:=mh (F0.out (Bool.eq_false_iff.2 fun e=>by obtain⟨a1,a2,a3,a4,a5⟩:=SP.out.1 e;rw[if_pos rfl]at a3;cases a3))
    go_enter Tryz.func89,Tryz.ntmps89
    go_wp2_with (first|(go_at_call 113;(with_reducible refine cmo (LM.out _) ?_);rintro e w1 ⟨rfl,rfl⟩)|(go_at_call 114;(with_reducible refine cmo (KD.out _) ?_);rintro e w1 ⟨rfl,rfl⟩)|(go_at_call 115;(with_reducible refine cmo (SG.out _) ?_);rintro e w1 ⟨rfl,rfl⟩))
    go_ret
    exact⟨by rw[HV.out];rfl,by go_grown⟩
   by_cases g1:(K.length:Int)<le
   ·have HV:=mh (F0.out (Bool.eq_false_iff.2 fun e=>by obtain⟨a1,a2,a3,a4,a5⟩:=SP.out.1 e;omega))
    go_enter Tryz.func89,Tryz.ntmps89
    go_wp2_with (first|(go_at_call 113;(with_reducible refine cmo (LM.out _) ?_);rintro e w1 ⟨rfl,rfl⟩)|(go_at_call 114;(with_reducible refine cmo (KD.out _) ?_);rintro e w1 ⟨rfl,rfl⟩)|(go_at_call 115;(with_reducible refine cmo (SG.out _) ?_);rintro e w1 ⟨rfl,rfl⟩))
    go_ret
    exact⟨by rw[HV.out];rfl,by go_grown⟩
   by_cases g2:mo<(K.length:Int)
   ·have HV:=mh (F0.out (Bool.eq_false_iff.2 fun e=>by obtain⟨a1,a2,a3,a4,a5⟩:=SP.out.1 e;omega))
    go_enter Tryz.func89,Tryz.ntmps89
    go_wp2_with (first|(go_at_call 113;(with_reducible refine cmo (LM.out _) ?_);rintro e w1 ⟨rfl,rfl⟩)|(go_at_call 114;(with_reducible refine cmo (KD.out _) ?_);rintro e w1 ⟨rfl,rfl⟩)|(go_at_call 115;(with_reducible refine cmo (SG.out _) ?_);rintro e w1 ⟨rfl,rfl⟩))
    go_ret
    exact⟨by rw[HV.out];rfl,by go_grown⟩
   have HV:=mh (F1.out (SP.out.2 ⟨by first|simpa using ⟨by omega,by omega⟩|simp_all,by simp_all,by simp_all,by omega,by omega⟩))
   go_enter Tryz.func89,Tryz.ntmps89
   go_wp2_with (first|(go_at_call 113;(with_reducible refine cmo (LM.out _) ?_);rintro e w1 ⟨rfl,rfl⟩)|(go_at_call 114;(with_reducible refine cmo (KD.out _) ?_);rintro e w1 ⟨rfl,rfl⟩)|(go_at_call 115;(with_reducible refine cmo (SG.out _) ?_);rintro e w1 ⟨rfl,rfl⟩)|(go_at_call 116;(with_reducible refine cmo CF.out ?_);rintro e w1 ⟨rfl,hb1⟩))
   go_ret
   exact⟨ret_bool HV.out.symm,HB0.out.trans (hb1.mono (by simp;omega))⟩
  have h4b:(o==4)=false:=beq_eq_false_iff_ne.2 h4;have h7b:(o==7)=false:=beq_eq_false_iff_ne.2 h7;have h7c:(o != 7)=true:=bne_iff_ne.2 h7;have SG:=SG0
  by_cases hm0:m=0
  rotate_left
  ·have hmb:(m != 0)=true:=bne_iff_ne.2 hm0
   have HV:=mh (F0.out (Bool.eq_false_iff.2 fun e=>by obtain⟨a1,a2,a3,a4,a5⟩:=SP.out.1 e;rw[if_neg h7]at a3;exact hm0 a3))
   go_enter Tryz.func89,Tryz.ntmps89
   go_wp2_with (first|(go_at_call 113;(with_reducible refine cmo (LM.out _) ?_);rintro e w1 ⟨rfl,rfl⟩)|(go_at_call 114;(with_reducible refine cmo (KD.out _) ?_);rintro e w1 ⟨rfl,rfl⟩)|(go_at_call 115;(with_reducible refine cmo (SG.out _) ?_);rintro e w1 ⟨rfl,rfl⟩))
   go_ret
   exact⟨by rw[HV.out];rfl,by go_grown⟩
  subst hm0
  by_cases g1:(K.length:Int)<le
  ·have HV:=mh (F0.out (Bool.eq_false_iff.2 fun e=>by obtain⟨a1,a2,a3,a4,a5⟩:=SP.out.1 e;omega))
   go_enter Tryz.func89,Tryz.ntmps89
   go_wp2_with (first|(go_at_call 113;(with_reducible refine cmo (LM.out _) ?_);rintro e w1 ⟨rfl,rfl⟩)|(go_at_call 114;(with_reducible refine cmo (KD.out _) ?_);rintro e w1 ⟨rfl,rfl⟩)|(go_at_call 115;(with_reducible refine cmo (SG.out _) ?_);rintro e w1 ⟨rfl,rfl⟩))
   go_ret
   exact⟨by rw[HV.out];rfl,by go_grown⟩
  by_cases g2:mo<(K.length:Int)
  ·have HV:=mh (F0.out (Bool.eq_false_iff.2 fun e=>by obtain⟨a1,a2,a3,a4,a5⟩:=SP.out.1 e;omega))
   go_enter Tryz.func89,Tryz.ntmps89
   go_wp2_with (first|(go_at_call 113;(with_reducible refine cmo (LM.out _) ?_);rintro e w1 ⟨rfl,rfl⟩)|(go_at_call 114;(with_reducible refine cmo (KD.out _) ?_);rintro e w1 ⟨rfl,rfl⟩)|(go_at_call 115;(with_reducible refine cmo (SG.out _) ?_);rintro e w1 ⟨rfl,rfl⟩))
   go_ret
   exact⟨by rw[HV.out];rfl,by go_grown⟩
  have HV:=mh (F1.out (SP.out.2 ⟨by first|simpa using ⟨by omega,by omega⟩|simp_all,by simp_all,by simp_all,by omega,by omega⟩))
  go_enter Tryz.func89,Tryz.ntmps89
  go_wp2_with (first|(go_at_call 113;(with_reducible refine cmo (LM.out _) ?_);rintro e w1 ⟨rfl,rfl⟩)|(go_at_call 114;(with_reducible refine cmo (KD.out _) ?_);rintro e w1 ⟨rfl,rfl⟩)|(go_at_call 115;(with_reducible refine cmo (SG.out _) ?_);rintro e w1 ⟨rfl,rfl⟩)|(go_at_call 116;(with_reducible refine cmo CF.out ?_);rintro e w1 ⟨rfl,hb1⟩))
  go_ret
  exact⟨ret_bool HV.out.symm,HB0.out.trans (hb1.mono (by simp;omega))⟩
theorem right_any (Q:Nat→Prop):∀D:Nat,D≤1000→RightAt Q D
 | 0,_=>right_zero Q
 | D+1,h=>right_succ (by omega) (right_any Q D (by omega))
theorem check16_any {Q:Nat→Prop}(d:Nat)(r:RT)(t:Tm)(w:World)(h:TV Q w d r t) :
  Calls Tryz.prog 50 #[.agg #[I O r.op,I O r.num,I O r.more,.slice r.p r.n r.c]] w (IntG (chkT t) w):=by
 have hA:Below w.heap.size w (w.alloc (.cells #[I O r.op,I O r.num,I O r.more,.slice r.p r.n r.c] 28)):=(brf _ _).alloc mle _;have CT:=mh (count16_any d r t 40 _ (h.below hA) (by omega) (by omega));have RT:=mh (fun (W:World) (hW:Below w.heap.size w W)=>show Calls Tryz.prog 89 #[.agg #[I O r.op,I O r.num,I O r.more,.slice r.p r.n r.c],I O 8] W (BoolG (rightB 8 t) W) from right_any Q 8 (by omega) d r t W (h.below hW));have CR:=mh (chkT_right t);have HA:=mh hA;have CB:=cntV_bd t 40 (by omega);have HC:=mh (show(cntV t 40≤40↔count t≤40) by unfold cntV;split<;>omega);obtain⟨N,eN⟩:∃N,cntV t 40=N:=⟨_,rfl⟩;rw[eN]at CT CB HC;obtain⟨B,eB⟩:∃B,rightB 8 t=B:=⟨_,rfl⟩;rw[eB]at RT CR;clear eN eB h hA
 by_cases h1:40<N
 ·have HV:=mh (show chkT t=1 by rw[CR.out,if_pos (by have:=HC.out;omega)])
  go_enter Tryz.func50,Tryz.ntmps50
  go_wp2_with (first|(go_at_call 88;(with_reducible refine cmo CT.out ?_);rintro e w1 ⟨rfl,hb1⟩))
  go_ret
  exact⟨ret_int HV.out.symm,bstep mle HA.out hb1⟩
 ·have hN:¬40<count t:=by have:=HC.out;omega
  cases B
  ·have HV:=mh (show chkT t=16 by rw[CR.out,if_neg hN,if_pos rfl])
   go_enter Tryz.func50,Tryz.ntmps50
   go_wp2_with (first|(go_at_call 88;(with_reducible refine cmo CT.out ?_);rintro e w1 ⟨rfl,hb1⟩;have hk:=hb1.cell (p:=⟨w.heap.size,0,none⟩) (by simp);have RT1:=mh (RT.out w1 (bstep mle HA.out hb1));have HB1:=mh (bstep mle HA.out hb1);have hk0:=mcell hb1 0;have hk1:=mcell hb1 1;have hk2:=mcell hb1 2;have hk3:=mcell hb1 3;clear hb1)|(go_at_call 89;(with_reducible refine cmo RT1.out ?_);rintro e w2 ⟨rfl,hb2⟩))
   go_ret
   exact⟨ret_int HV.out.symm,bstep mle HB1.out hb2⟩
  ·have HV:=mh (show chkT t=0 by rw[CR.out,if_neg hN,if_neg (by simp)])
   go_enter Tryz.func50,Tryz.ntmps50
   go_wp2_with (first|(go_at_call 88;(with_reducible refine cmo CT.out ?_);rintro e w1 ⟨rfl,hb1⟩;have RT1:=mh (RT.out w1 (bstep mle HA.out hb1));have HB1:=mh (bstep mle HA.out hb1);have hk0:=mcell hb1 0;have hk1:=mcell hb1 1;have hk2:=mcell hb1 2;have hk3:=mcell hb1 3;clear hb1)|(go_at_call 89;(with_reducible refine cmo RT1.out ?_);rintro e w2 ⟨rfl,hb2⟩))
   go_ret
   exact⟨ret_int HV.out.symm,bstep mle HB1.out hb2⟩
end Go.Proofs.YtbcmabolkkfgfaaGreatDoor
