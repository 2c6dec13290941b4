/- Packed. -/
import Derived.Test.YtefcalgjnkigjaaGreatL1
set_option maxRecDepth 100000
set_option maxHeartbeats 8000000
open Go.Value renaming int → I
open Go.IntKind renaming i64 → O
namespace Go.Proofs.YtefcalgjnkigjaaGreat
open Go.RowKit Te
def tC (lim:Nat) (c:Nat) (n:Int):Prop:=(c≤lim→n=(c:Int))∧(lim<c→(lim:Int)<n)∧1≤n∧n≤(c:Int)
def RcG (lim:Nat) (c:Nat) (w:World) (e:Ending) (w' : World):Prop:=∃n:Int,tC lim c n∧e = .returned (I O n)∧Below w.heap.size w w'
theorem tC.step {lim c k:Nat}{n m:Int}(h:tC lim c n)(hn:n≤lim)(h2:tC lim k m):tC lim (c+k) (n+m):=by
 obtain⟨a1,a2,a3,a4⟩:=h;obtain⟨b1,b2,b3,b4⟩:=h2;have hc:c≤lim:=by
  rcases Nat.lt_or_ge lim c with h|h
  ·have:=a2 h;omega
  ·exact h
 have:=a1 hc;refine⟨fun h=>?_,fun h=>?_,by omega,by omega⟩
 ·have:=b1 (by omega);omega
 ·rcases Nat.lt_or_ge lim k with h3|h3
  ·have:=b2 h3;omega
  ·have:=b1 h3;omega
theorem tC.keep {lim c k:Nat}{n:Int}(h:tC lim c n)(hn:lim<n):tC lim (c+k) n:=by
 obtain⟨a1,a2,a3,a4⟩:=h;exact⟨fun h=>by omega,fun _=>hn,a3,by omega⟩
theorem mQ (to_ tn tm:Int)(K:List Tm):count (.mk to_ tn tm K)=1+qS K:=by rw[count]
theorem jGA (to_ tn tm:Int)(K:List Tm):xU (.mk to_ tn tm K)=jA K+1:=by rw[xU]
theorem sN (K:List Tm)(j:Nat)(h:j<K.length):count K[j]≤qS K:=nE (List.getElem_mem h)
theorem pH (A B:List Tm):jA (A++B)=max (jA A) (jA B):=by
 induction A with
 | nil=>simp[jA]
 | cons a r ih=>rw[List.cons_append,jA,jA,ih];omega
theorem lP (K:List Tm)(j:Nat)(h:j<K.length):jA (K.take (j+1))=max (jA (K.take j)) (xU K[j]):=by
 rw[tsg h,pH,jA,jA];omega
mutual
theorem uC:∀t:Tm,xU t≤count t
 | .mk o n m K=>by rw[xU,count];have:=vK K;omega
theorem vK:∀K:List Tm,jA K≤qS K
 | []=>by simp[jA]
 | k::r=>by rw[jA,qS];have:=uC k;have:=vK r;omega
end
theorem rJ {Q:Nat→Prop}:∀(d:Nat) (r:RT) (t:Tm) (w:World),TV Q w d r t→count t≤1099511627776 →
  Calls Tryz.prog 169 #[.agg #[I O r.op,I O r.num,I O r.more,.slice r.p r.n r.c]] w (RcG 40 (count t) w):=by
 intro d
 induction d using Nat.strongRecOn with
 | _ d ih =>
 intro r t w h hz;obtain⟨ro,rn,rm,rp,rl,rc⟩:=r;obtain⟨to_,tn,tm,K⟩:=t;have hat:jE Q w d rp K:=h.at_;have hlen:rl=K.length:=h.is.n;have hn:=hat.len;rw[mQ]at hz ⊢;simp only;subst hlen;have HT:=mh hat;have IH:=mh ih;clear h ih hat
 go_enter Tryz.func169,Tryz.ntmps169
 go_wp2
 go_loopw [3,9] (fun n i wr=>∃(j:Nat) (N:Int),j≤K.length∧i=I O j∧n=I O N∧tC 40 (1+qS (K.take j)) N∧Below w.heap.size w wr) (fun _ i _=>K.length - (intOf i).toNat)
 case atStart=>exact⟨0,1,Nat.zero_le _,rfl,rfl,⟨fun _=>by simp[qS],fun h=>by simp[qS]at h,by omega,by simp[qS]⟩,(brf _ _).alloc mle _⟩
 case round =>
  obtain⟨wo,rfl⟩:∃wo:World,wo=wr:=⟨_,rfl⟩;obtain⟨j,N,hj,rfl,rfl,hR,hb⟩:=hrel;have HB:=mh hb;have HR:=mh hR;have hj0:(0:Int)≤(j:Int):=inn _;have hct:=bP K j;have n1:1≤N:=hR.2.2.1;have n2:N≤1099511627776:=by have:=hR.2.2.2;omega
  clear hR
  by_cases hlt:j<K.length
  ·have hj1:(j:Int)<(K.length:Int):=by omega
   obtain⟨e,b,off,k,rfl,rfl,hbl,hc,hv⟩:=(HT.below hb).kid hlt;obtain⟨c0,c1,c2,c3⟩:=hc;have hkb:=sN K j hlt;have CS:=mh (bM K j hlt);have HK:=mh (fun (W:World) (hW:Below wo.heap.size wo W)=>IH.out e (by omega) k K[j] W (hv.below hW) (by omega));clear hv hb
   by_cases hm:N≤40
   ·have HK2:=mh (HK _ ((brf _ _).alloc mle (.cells #[I O k.op,I O k.num,I O k.more,.slice k.p k.n k.c] 76)))
    clear HK
    go_wp2_with (first|(go_at_call 169;(with_reducible refine cmo HK2.out ?_);rintro e w1 ⟨M,hM,rfl,hb1⟩;have m1:1≤M:=hM.2.2.1;have m2:M≤1099511627776:=(by have:=hM.2.2.2;omega);have HM:=mh hM;clear hM))
    go_roundw
    case rel=>exact⟨j+1,N+M,by omega,by go_num,rfl,by rw[CS.out,← Nat.add_assoc];exact HR.step (by omega) HM.out,qZ mle (qK mle HB _) hb1⟩
    case measure=>simp[intOf];omega
   ·clear HK
    go_wp2
    go_roundw
    case rel=>exact⟨j+1,N,by omega,by go_num,rfl,by rw[CS.out,← Nat.add_assoc];exact HR.keep (by omega),qK mle HB _⟩
    case measure=>simp[intOf];omega
  ·obtain rfl:j=K.length:=by omega
   rw[List.take_length]at HR;clear hb hct
   go_wp2
   go_ret
   exact⟨N,HR.out,rfl,HB.out⟩
theorem lD {Q:Nat→Prop}:∀(d:Nat) (r:RT) (t:Tm) (w:World),TV Q w d r t→count t≤1099511627776 →
  Calls Tryz.prog 170 #[.agg #[I O r.op,I O r.num,I O r.more,.slice r.p r.n r.c]] w (kW (xU t:Int) w):=by
 intro d
 induction d using Nat.strongRecOn with
 | _ d ih =>
 intro r t w h hz;obtain⟨ro,rn,rm,rp,rl,rc⟩:=r;obtain⟨to_,tn,tm,K⟩:=t;have hat:jE Q w d rp K:=h.at_;have hlen:rl=K.length:=h.is.n;have hn:=hat.len;rw[mQ]at hz;rw[jGA];have hdc:=vK K;simp only;subst hlen;have HT:=mh hat;have IH:=mh ih;clear h ih hat
 go_enter Tryz.func170,Tryz.ntmps170
 go_wp2
 go_loopw [3,9] (fun n i wr=>∃j:Nat,j≤K.length∧i=I O j∧n=I O (jA (K.take j):Int)∧Below w.heap.size w wr) (fun _ i _=>K.length - (intOf i).toNat)
 case atStart=>exact⟨0,Nat.zero_le _,rfl,rfl,(brf _ _).alloc mle _⟩
 case round =>
  obtain⟨wo,rfl⟩:∃wo:World,wo=wr:=⟨_,rfl⟩;obtain⟨j,hj,rfl,rfl,hb⟩:=hrel;have HB:=mh hb;have hj0:(0:Int)≤(j:Int):=inn _
  by_cases hlt:j<K.length
  ·have hj1:(j:Int)<(K.length:Int):=by omega
   obtain⟨e,b,off,k,rfl,rfl,hbl,hc,hv⟩:=(HT.below hb).kid hlt;obtain⟨c0,c1,c2,c3⟩:=hc;have hkb:=sN K j hlt;have CS:=mh (lP K j hlt);have HK:=mh (IH e (by omega) k K[j] _ (hv.below ((brf _ _).alloc mle (.cells #[I O k.op,I O k.num,I O k.more,.slice k.p k.n k.c] 76))) (by omega));clear hv hb;obtain⟨D,eD⟩:∃D,xU K[j]=D:=⟨_,rfl⟩;rw[eD]at CS HK;obtain⟨E,eE⟩:∃E,jA (K.take j)=E:=⟨_,rfl⟩;rw[eE]at CS ⊢;clear eD eE
   by_cases hm:D≤E
   ·have HM:=mh (show jA (K.take (j+1))=E by rw[CS.out];omega)
    have hm1:¬(E:Int)<(D:Int):=by omega
    go_wp2_with (first|(go_at_call 170;(with_reducible refine cmo HK.out ?_);rintro e w1 ⟨rfl,hb1⟩))
    go_roundw
    case rel=>exact⟨j+1,by omega,by go_num,by rw[HM.out];first|rfl|(congr 1;omega),qZ mle (qK mle HB _) hb1⟩
    case measure=>simp[intOf];omega
   ·have HM:=mh (show jA (K.take (j+1))=D by rw[CS.out];omega)
    have hm1:(E:Int)<(D:Int):=by omega
    go_wp2_with (first|(go_at_call 170;(with_reducible refine cmo HK.out ?_);rintro e w1 ⟨rfl,hb1⟩))
    go_roundw
    case rel=>exact⟨j+1,by omega,by go_num,by rw[HM.out];first|rfl|(congr 1;omega),qZ mle (qK mle HB _) hb1⟩
    case measure=>simp[intOf];omega
  ·obtain rfl:j=K.length:=by omega
   rw[List.take_length];clear hb
   go_wp2
   go_ret
   exact⟨qA (by omega),HB.out⟩
def zQA (o:Int):Int:=if o=2 then 0 else if o=3 then 0 else if o=4 then 1 else if o=5 then 0 else if o=6 then 2 else if o=7∨o=8 then 1 else 0
def mW (o:Int):Int:=if o=2 then 39 else if o=3 then 40 else if o=4 then 16 else if o=5 then 15 else if o=6 then 10 else if o=7∨o=8 then 10 else 0
def rV (o:Int):Bool:=decide (2≤o)&&decide (o≤8)
def fH (o:Int):Int:=if o=9∨o=10 then 1 else if o=11 then 1 else 0
def mA (o:Int):Int:=if o=9∨o=10 then 40 else if o=11 then 1 else 0
theorem zCA {o n m:Int}{k:Nat}(ho:1≤o)(ho2:o≤11) :
  (vZ o n m k&&decide (k≤40))=true↔(if rV o=true then zQA o≤n∧n≤mW o else n=0)∧(o=4→zE n=true)∧(if o=7 then zE m=true else m=0)∧fH o≤(k:Int)∧(k:Int)≤mA o:=by
 have:o=1∨o=2∨o=3∨o=4∨o=5∨o=6∨o=7∨o=8∨o=9∨o=10∨o=11:=by omega
 have hs:zE n=true→1≤n∧n≤16:=by
  unfold zE;simp only[Bool.or_eq_true,beq_iff_eq];omega
 have hk:(k==1)=true↔k=1:=beq_iff_eq;have hk0:(k==0)=true↔k=0:=beq_iff_eq;have hn0:(n==0)=true↔n=0:=beq_iff_eq;have hm0:(m==0)=true↔m=0:=beq_iff_eq
 cases hsn:zE n<;>cases hsm:zE m<;>simp only[hsn,true_implies,Bool.false_eq_true,false_implies]at hs <;>
  (rcases this with rfl|rfl|rfl|rfl|rfl|rfl|rfl|rfl|rfl|rfl|rfl<;>simp[vZ,rV,zQA,mW,fH,mA,hsn,hsm]<;>omega)
theorem zGA {d:Nat}{o n m:Int}{K:List Tm}(h:(vZ o n m K.length&&decide (K.length≤40))=false):jB (d+1) (.mk o n m K)=false:=by
 rw[jB,h,Bool.false_and]
theorem zUA {d:Nat}{o n m:Int}{K:List Tm}(h:(vZ o n m K.length&&decide (K.length≤40))=true):jB (d+1) (.mk o n m K)=K.all (jB d):=by
 rw[jB,h,Bool.true_and]
theorem qDA {o n m:Int}{k:Nat}(h:o<1∨11<o):(vZ o n m k&&decide (k≤40))=false:=by
 unfold vZ;rw[if_neg (by omega),if_neg (by omega),if_neg (by omega),if_neg (by omega),if_neg (by omega),if_neg (by omega),if_neg (by omega),if_neg (by omega),if_neg (by omega),if_neg (by omega)]
 rfl
theorem mT (o:Int)(w:World):Calls Tryz.prog 196 #[I O o] w fun e w' => e = .returned (.tuple #[I O (zQA o),I O (mW o),.bool (rV o)])∧w=w' :=by
 by_cases h2:o=2
 ·subst h2
  go_enter Tryz.func196,Tryz.ntmps196
  go_wp2
  go_ret3
  exact⟨rfl,rfl⟩
 by_cases h3:o=3
 ·subst h3
  go_enter Tryz.func196,Tryz.ntmps196
  go_wp2
  go_ret3
  exact⟨rfl,rfl⟩
 by_cases h4:o=4
 ·subst h4
  go_enter Tryz.func196,Tryz.ntmps196
  go_wp2
  go_ret3
  exact⟨rfl,rfl⟩
 by_cases h5:o=5
 ·subst h5
  go_enter Tryz.func196,Tryz.ntmps196
  go_wp2
  go_ret3
  exact⟨rfl,rfl⟩
 by_cases h6:o=6
 ·subst h6
  go_enter Tryz.func196,Tryz.ntmps196
  go_wp2
  go_ret3
  exact⟨rfl,rfl⟩
 by_cases h7:o=7
 ·subst h7
  go_enter Tryz.func196,Tryz.ntmps196
  go_wp2
  go_ret3
  exact⟨rfl,rfl⟩
 by_cases h8:o=8
 ·subst h8
  go_enter Tryz.func196,Tryz.ntmps196
  go_wp2
  go_ret3
  exact⟨rfl,rfl⟩
 have e1:zQA o=0:=by unfold zQA;rw[if_neg h2,if_neg h3,if_neg h4,if_neg h5,if_neg h6,if_neg (by omega)]
 have e2:mW o=0:=by unfold mW;rw[if_neg h2,if_neg h3,if_neg h4,if_neg h5,if_neg h6,if_neg (by omega)]
 have e3:rV o=false:=by unfold rV;cases h:(decide (2≤o)&&decide (o≤8))<;>simp at h ⊢;omega
 rw[e1,e2,e3];clear e1 e2 e3
 go_enter Tryz.func196,Tryz.ntmps196
 go_wp2
 go_ret3
 exact⟨rfl,rfl⟩
theorem aJ (o:Int)(w:World):Calls Tryz.prog 197 #[I O o] w fun e w' => e = .returned (.tuple #[I O (fH o),I O (mA o)])∧w=w' :=by
 by_cases h2:o=9
 ·subst h2
  go_enter Tryz.func197,Tryz.ntmps197
  go_wp2
  go_ret2
  exact⟨rfl,rfl⟩
 by_cases h3:o=10
 ·subst h3
  go_enter Tryz.func197,Tryz.ntmps197
  go_wp2
  go_ret2
  exact⟨rfl,rfl⟩
 by_cases h4:o=11
 ·subst h4
  go_enter Tryz.func197,Tryz.ntmps197
  go_wp2
  go_ret2
  exact⟨rfl,rfl⟩
 have e1:fH o=0:=by unfold fH;rw[if_neg (by omega),if_neg h4]
 have e2:mA o=0:=by unfold mA;rw[if_neg (by omega),if_neg h4]
 rw[e1,e2];clear e1 e2
 go_enter Tryz.func197,Tryz.ntmps197
 go_wp2
 go_ret2
 exact⟨rfl,rfl⟩
theorem zLA (n:Int)(w:World):Calls Tryz.prog 198 #[I O n] w fun e w' => e = .returned (.bool (zE n))∧w=w' :=by
 by_cases h1:n<1
 ·have e:zE n=false:=by
   unfold zE;simp only[Bool.or_eq_false_iff,beq_eq_false_iff_ne];omega
  rw[e];clear e
  go_enter Tryz.func198,Tryz.ntmps198
  go_wp2
  go_ret
  exact⟨rfl,rfl⟩
 by_cases h2:16<n
 ·have e:zE n=false:=by
   unfold zE;simp only[Bool.or_eq_false_iff,beq_eq_false_iff_ne];omega
  rw[e];clear e
  go_enter Tryz.func198,Tryz.ntmps198
  go_wp2
  go_ret
  exact⟨rfl,rfl⟩
 have:n=1∨n=2∨n=3∨n=4∨n=5∨n=6∨n=7∨n=8∨n=9∨n=10∨n=11∨n=12∨n=13∨n=14∨n=15∨n=16:=by omega
 clear h1 h2
 rcases this with rfl|rfl|rfl|rfl|rfl|rfl|rfl|rfl|rfl|rfl|rfl|rfl|rfl|rfl|rfl|rfl
 all_goals
  go_enter Tryz.func198,Tryz.ntmps198
  go_wp2
  go_ret
  exact⟨by kernel_rfl,rfl⟩
def yC (b:Bool) (w:World) (e:Ending) (w' : World):Prop:=e = .returned (.bool b)∧Below w.heap.size w w'
def gW (Q:Nat→Prop) (D:Nat):Prop:=∀(d:Nat) (r:RT) (t:Tm) (w:World),TV Q w d r t →
    Calls Tryz.prog 167 #[.agg #[I O r.op,I O r.num,I O r.more,.slice r.p r.n r.c],I O (D:Int)] w (yC (jB D t) w)
theorem zNA {Q:Nat→Prop}{D:Nat}(hD:D≤1000)(IH:gW Q D)(d:Nat)(r:RT)(t:Tm)(w:World)(bd:Nat)(h:TV Q w d r t)(hc:w.cell? ⟨bd,0,none⟩=some (I O ((D:Int)+1)))(hl:bd<w.heap.size) :
  Calls Tryz.prog 200 #[.agg #[I O r.op,I O r.num,I O r.more,.slice r.p r.n r.c],.pointer (some ⟨bd,0,none⟩)] w (yC (!jB D t) w):=by
 have HI:=mh (IH d r t _ (h.below ((brf _ _).alloc mle (.cells #[I O r.op,I O r.num,I O r.more,.slice r.p r.n r.c] 76))));have hz:(D:Int)+1 - 1=(D:Int):=by omega
 clear IH h
 go_enter Tryz.func200,Tryz.ntmps200
 go_wp2_with (first|(go_at_call 167;(with_reducible refine cmo HI.out ?_);rintro e w1 ⟨rfl,hb1⟩))
 go_ret
 exact⟨rfl,qZ mle ((brf _ _).alloc mle _) hb1⟩
def IxG (b:Bool) (w:World) (e:Ending) (w' : World):Prop:=∃r:Int,e = .returned (I O r)∧decide (0≤r)=b ∧ -1≤r∧Below w.heap.size w w'
theorem pD {Q:Nat→Prop}{D:Nat}(hD:D≤1000)(IH:gW Q D)(d:Nat)(p:Option Addr)(K:List Tm)(cap bd:Nat)(w:World)(h:jE Q w d p K)(hc:w.cell? ⟨bd,0,none⟩=some (I O ((D:Int)+1)))(hl:bd<w.heap.size) :
  Calls Tryz.prog 217 #[.slice p K.length cap,.func (.func 200) #[] #[.pointer (some ⟨bd,0,none⟩)]] w (IxG (K.any fun k => !jB D k) w):=by
 have hn:=h.len;have H:=mh h;have HC:=mh hc;have HI:=mh IH;clear h hc IH
 go_enter Tryz.func217,Tryz.ntmps217
 go_wp2
 go_loopw [8] (fun i wr=>∃k:Nat,k≤K.length∧i=I O k∧(K.take k).any (fun k => !jB D k)=false∧Below w.heap.size w wr) (fun i _=>K.length - (intOf i).toNat)
 case atStart=>exact⟨0,Nat.zero_le _,rfl,rfl,brf _ _⟩
 case round =>
  obtain⟨wo,rfl⟩:∃wo:World,wo=wr:=⟨_,rfl⟩;obtain⟨k,hk,rfl,ha,hb⟩:=hrel;have HA:=mh ha;have HB:=mh hb;have hsz:=hb.size;have hk0:(0:Int)≤(k:Int):=inn _
  by_cases hlt:k<K.length
  ·have hk1:(k:Int)<(K.length:Int):=by omega
   obtain⟨e,b,off,r,rfl,rfl,hbl,hcs,hv⟩:=(H.below hb).kid hlt;have CN:=mh (zNA hD HI e r K[k] wo bd hv ((hb.cell (p:=⟨bd,0,none⟩) hl).trans HC) (by omega))
   have HS:=mh (show(K.take (k+1)).any (fun k => !jB D k) = !jB D K[k] by
    rw[tsg hlt,List.any_append,HA.out,Bool.false_or];simp)
   have HM:=mh (show(!jB D K[k])=true→K.any (fun k => !jB D k)=true from fun e=>List.any_eq_true.2 ⟨K[k],List.getElem_mem hlt,e⟩);obtain⟨bb,ebb⟩:∃x,(!jB D K[k])=x:=⟨_,rfl⟩;rw[ebb]at HS HM CN;obtain⟨c0,c1,c2,c3⟩:=hcs;clear ha hb hv ebb
   cases bb
   ·go_wp2_with (first|(go_at_call 200;(with_reducible refine cmo CN.out ?_);rintro e w1 ⟨rfl,hb1⟩))
    go_roundw
    case rel=>exact⟨k+1,by omega,by go_num,HS.out,qZ mle HB hb1⟩
    case measure=>simp[intOf];omega
   ·go_wp2_with (first|(go_at_call 200;(with_reducible refine cmo CN.out ?_);rintro e w1 ⟨rfl,hb1⟩))
    go_ret
    exact⟨(k:Int),rfl,by rw[HM.out trivial];exact dqt hk0,by omega,qZ mle HB hb1⟩
  ·obtain rfl:k=K.length:=by omega
   rw[List.take_of_length_le mle]at ha;have HA2:=mh ha;clear ha hb
   go_wp2
   go_ret
   exact⟨-1,rfl,by rw[HA2.out];rfl,by omega,HB.out⟩
theorem dM {Q:Nat→Prop}{D:Nat}(hD:D≤1000)(IH:gW Q D)(d:Nat)(p:Option Addr)(K:List Tm)(cap bd:Nat)(w:World)(h:jE Q w d p K)(hc:w.cell? ⟨bd,0,none⟩=some (I O ((D:Int)+1)))(hl:bd<w.heap.size) :
  Calls Tryz.prog 199 #[.slice p K.length cap,.func (.func 200) #[] #[.pointer (some ⟨bd,0,none⟩)]] w (yC (K.any fun k => !jB D k) w):=by
 have CI:=mh (pD hD IH d p K cap bd w h hc hl);clear h hc IH
 go_enter Tryz.func199,Tryz.ntmps199
 go_wp2_with (first|(go_at_call 217;(with_reducible refine cmo CI.out ?_);rintro e w1 ⟨r,rfl,hr,hr1,hb⟩;have HR:=mh hr;clear hr))
 go_ret
 exact⟨qT HR.out,hb⟩
theorem zFA (Q:Nat→Prop):gW Q 0:=by
 intro d r t w h;have e:jB 0 t=false:=by rw[jB]
 rw[e];clear e h;obtain⟨o,n,m,p,l,c⟩:=r;have LM:=mh (fun W=>mT o W);have KD:=mh (fun W=>aJ o W);obtain⟨lo,elo⟩:∃x,zQA o=x:=⟨_,rfl⟩;obtain⟨hi,ehi⟩:∃x,mW o=x:=⟨_,rfl⟩;obtain⟨hs,ehs⟩:∃x,rV o=x:=⟨_,rfl⟩;obtain⟨le,ele⟩:∃x,fH o=x:=⟨_,rfl⟩;obtain⟨mo,emo⟩:∃x,mA o=x:=⟨_,rfl⟩;rw[elo,ehi,ehs]at LM;rw[ele,emo]at KD;clear elo ehi ehs ele emo;simp only
 by_cases h1:o<1
 ·go_enter Tryz.func167,Tryz.ntmps167
  go_wp2_with (first|(go_at_call 196;(with_reducible refine cmo (LM.out _) ?_);rintro e w1 ⟨rfl,rfl⟩)|(go_at_call 197;(with_reducible refine cmo (KD.out _) ?_);rintro e w1 ⟨rfl,rfl⟩))
  go_ret
  exact⟨rfl,by go_grown⟩
 by_cases h2:11<o
 ·go_enter Tryz.func167,Tryz.ntmps167
  go_wp2_with (first|(go_at_call 196;(with_reducible refine cmo (LM.out _) ?_);rintro e w1 ⟨rfl,rfl⟩)|(go_at_call 197;(with_reducible refine cmo (KD.out _) ?_);rintro e w1 ⟨rfl,rfl⟩))
  go_ret
  exact⟨rfl,by go_grown⟩
 ·go_enter Tryz.func167,Tryz.ntmps167
  go_wp2_with (first|(go_at_call 196;(with_reducible refine cmo (LM.out _) ?_);rintro e w1 ⟨rfl,rfl⟩)|(go_at_call 197;(with_reducible refine cmo (KD.out _) ?_);rintro e w1 ⟨rfl,rfl⟩))
  go_ret
  exact⟨rfl,by go_grown⟩
theorem sZ (n:Int)(w:World):Calls Tryz.prog 201 #[I O n] w fun e w' => e = .returned (.bool (zE n))∧w=w' :=by
 by_cases h1:n=1
 ·subst h1;go_enter Tryz.func201,Tryz.ntmps201;go_wp2;go_ret;exact⟨rfl,rfl⟩
 by_cases h2:n=2
 ·subst h2;go_enter Tryz.func201,Tryz.ntmps201;go_wp2;go_ret;exact⟨rfl,rfl⟩
 by_cases h4:n=4
 ·subst h4;go_enter Tryz.func201,Tryz.ntmps201;go_wp2;go_ret;exact⟨rfl,rfl⟩
 by_cases h8:n=8
 ·subst h8;go_enter Tryz.func201,Tryz.ntmps201;go_wp2;go_ret;exact⟨rfl,rfl⟩
 by_cases h16:n=16
 ·subst h16;go_enter Tryz.func201,Tryz.ntmps201;go_wp2;go_ret;exact⟨rfl,rfl⟩
 have e:zE n=false:=by
  unfold zE;simp only[Bool.or_eq_false_iff,beq_eq_false_iff_ne];omega
 rw[e];clear e;have g1:(n==1)=false:=beq_eq_false_iff_ne.2 h1;have g2:(n==2)=false:=beq_eq_false_iff_ne.2 h2;have g4:(n==4)=false:=beq_eq_false_iff_ne.2 h4;have g8:(n==8)=false:=beq_eq_false_iff_ne.2 h8;have g16:(n==16)=false:=beq_eq_false_iff_ne.2 h16
 go_enter Tryz.func201,Tryz.ntmps201
 go_wp2
 go_ret
 exact⟨rfl,rfl⟩
def okT (o n:Int) (k:Nat):Bool :=
 if o=1 then n==0 else if o=2 then decide (0≤n)&&decide (n<40) else if o=3 then decide (0≤n)&&decide (n≤40) else if o=4 then zE n
 else if o=5 then decide (0≤n)&&decide (n≤15) else if o=6 then decide (2≤n)&&decide (n≤10) else if o=7 then decide (1≤n)&&decide (n≤10) else if o=8 then decide (1≤n)&&decide (n≤10)
 else if o=9∨o=10 then n==0&&decide (1≤k) else if o=11 then n==0 else false
def sR (o m:Int):Bool:=if o=7 then zE m else m==0
def kidT (o:Int) (k:Nat):Int:=if o=9∨o=10 then (k:Int) else if o=11 then 1 else 0
theorem gEA (o n m:Int)(k:Nat):vZ o n m k=(okT o n k&&(sR o m&&decide ((k:Int)=kidT o k))):=by
 by_cases h:1≤o∧o≤11
 ·have:o=1∨o=2∨o=3∨o=4∨o=5∨o=6∨o=7∨o=8∨o=9∨o=10∨o=11:=by omega
  have e0:(k==0)=decide ((k:Int)=0):=by rw[Bool.eq_iff_iff,beq_iff_eq,decide_eq_true_eq];omega
  have e1:(k==1)=decide ((k:Int)=1):=by rw[Bool.eq_iff_iff,beq_iff_eq,decide_eq_true_eq];omega
  have e39:decide (n≤39)=decide (n<40):=by rw[decide_eq_decide];omega
  have ek:decide ((k:Int)=(k:Int))=true:=dqt rfl
  rcases this with rfl|rfl|rfl|rfl|rfl|rfl|rfl|rfl|rfl|rfl|rfl<;>simp[vZ,okT,sR,kidT,e0,e1,e39,Bool.and_assoc,Bool.and_comm,Bool.and_left_comm]
 ·have e1:vZ o n m k=false:=by
   have:=qDA (o:=o) (n:=n) (m:=m) (k:=k) (by omega);unfold vZ at this ⊢;rw[if_neg (by omega),if_neg (by omega),if_neg (by omega),if_neg (by omega),if_neg (by omega),if_neg (by omega),if_neg (by omega),if_neg (by omega),if_neg (by omega),if_neg (by omega)]
  have e2:okT o n k=false:=by
   unfold okT;rw[if_neg (by omega),if_neg (by omega),if_neg (by omega),if_neg (by omega),if_neg (by omega),if_neg (by omega),if_neg (by omega),if_neg (by omega),if_neg (by omega),if_neg (by omega)]
  rw[e1,e2,Bool.false_and]
theorem xHA (o n m:Int)(K:List Tm):form (.mk o n m K)=(vZ o n m K.length&&uZ K):=by rw[form]
theorem jCA {K:List Tm}{j:Nat}(h:j<K.length)(h2:uZ (K.take j)=true)(h3:form K[j]=true):uZ (K.take (j+1))=true:=by
 rw[dS]at *;intro k hk;rw[tsg h]at hk
 rcases List.mem_append.1 hk with hk|hk
 ·exact h2 k hk
 ·obtain rfl:=List.mem_singleton.1 hk;exact h3
theorem xUA {K:List Tm}{j:Nat}(h:j<K.length)(h3:form K[j]=false):uZ K=false:=by
 rw[Bool.eq_false_iff];intro e;rw[dS]at e;rw[e _ (List.getElem_mem h)]at h3
 cases h3
structure Bx (w wx:World) (r:RT):Prop where
 below:Below w.heap.size w wx
 cells:vBA wx w.heap.size 0 r
 lt:w.heap.size<wx.heap.size
theorem Bx.drewN {w wx:World}{r:RT}(h:Bx w wx r)(k:Nat):Bx w (wx.drewN k) r :=
 ⟨h.below.trans ((qQ _ _).mono h.below.size),⟨h.cells.c0,h.cells.c1,h.cells.c2,h.cells.c3⟩,h.lt⟩
theorem Bx.box (w:World)(r:RT)(T:TypeId):Bx w (w.alloc (.cells #[I O r.op,I O r.num,I O r.more,.slice r.p r.n r.c] T)) r :=
 ⟨(brf _ _).alloc mle _,⟨cwn _ _ _ 0,cwn _ _ _ 1,cwn _ _ _ 2,cwn _ _ _ 3⟩,by simp⟩
theorem kFA {Q:Nat→Prop}:∀(d:Nat) (r:RT) (t:Tm) (w:World),TV Q w d r t →
  Calls Tryz.prog 171 #[.agg #[I O r.op,I O r.num,I O r.more,.slice r.p r.n r.c]] w (yC (form t) w):=by
 intro d
 induction d using Nat.strongRecOn with
 | _ d ih =>
 intro r t w h;obtain⟨o,n,m,p,l,c⟩:=r;obtain⟨t0,tn,tm,K⟩:=t;obtain rfl:o=t0:=h.is.op;obtain rfl:n=tn:=h.is.num;obtain rfl:m=tm:=h.is.more;have hat:jE Q w d p K:=h.at_;have hlen:l=K.length:=h.is.n;have hn:=hat.len;simp only;subst hlen;have SR:=mh ((xHA o n m K).trans (by rw[gEA]));have HT:=mh hat;have IH:=mh ih;have SN:=mh (fun x W=>sZ x W);obtain⟨V,eV⟩:∃x,form (.mk o n m K)=x:=⟨_,rfl⟩;rw[eV]at SR ⊢;clear h ih hat eV
 go_enter Tryz.func171,Tryz.ntmps171
 go_wp2_with fail
 go_quiet (fail)
 have BX:=mh ((Bx.box w ⟨o,n,m,p,K.length,c⟩ 76).drewN nq);simp only at BX
 go_upto_block 0 with (fail)
 go_cut [3,4,5] (fun s3 s4 s5 wx=>s3=I O (kidT o K.length)∧s4 = .bool (sR o m)∧s5 = .bool (okT o n K.length)∧Bx w wx ⟨o,n,m,p,K.length,c⟩)
 case first =>
  by_cases h1:o=1
  ·subst h1
   go_wp2_with (first|(go_at_call 201;(with_reducible refine cmo (SN.out _ _) ?_);rintro e w1 ⟨rfl,rfl⟩))
   go_meet
   exact⟨rfl,rfl,by first|rfl|(simp[okT, *];done)|(simp[okT];omega),by first|exact BX.out|exact BX.drewN _⟩
  by_cases h2:o=2
  ·subst h2
   by_cases g1:n<0
   ·have g3:decide (0≤n)=false:=dqf (by omega)
    go_wp2_with (first|(go_at_call 201;(with_reducible refine cmo (SN.out _ _) ?_);rintro e w1 ⟨rfl,rfl⟩))
    go_meet
    exact⟨rfl,rfl,by first|rfl|(simp[okT,g3];done)|(simp[okT];omega),by first|exact BX.out|exact BX.drewN _⟩
   by_cases g2:39<n
   ·have g3:decide (n<40)=false:=dqf (by omega)
    go_wp2_with (first|(go_at_call 201;(with_reducible refine cmo (SN.out _ _) ?_);rintro e w1 ⟨rfl,rfl⟩))
    go_meet
    exact⟨rfl,rfl,by first|rfl|(simp[okT,g3];done)|(simp[okT];omega),by first|exact BX.out|exact BX.drewN _⟩
   ·have g3:decide (0≤n)=true:=dqt (by omega)
    have g4:decide (n<40)=true:=dqt (by omega)
    go_wp2_with (first|(go_at_call 201;(with_reducible refine cmo (SN.out _ _) ?_);rintro e w1 ⟨rfl,rfl⟩))
    go_meet
    exact⟨rfl,rfl,by first|rfl|(simp[okT,g3,g4];done)|(simp[okT];omega),by first|exact BX.out|exact BX.drewN _⟩
  by_cases h3:o=3
  ·subst h3
   by_cases g1:n<0
   ·have g3:decide (0≤n)=false:=dqf (by omega)
    go_wp2_with (first|(go_at_call 201;(with_reducible refine cmo (SN.out _ _) ?_);rintro e w1 ⟨rfl,rfl⟩))
    go_meet
    exact⟨rfl,rfl,by first|rfl|(simp[okT,g3];done)|(simp[okT];omega),by first|exact BX.out|exact BX.drewN _⟩
   by_cases g2:40<n
   ·have g3:decide (n≤40)=false:=dqf (by omega)
    go_wp2_with (first|(go_at_call 201;(with_reducible refine cmo (SN.out _ _) ?_);rintro e w1 ⟨rfl,rfl⟩))
    go_meet
    exact⟨rfl,rfl,by first|rfl|(simp[okT,g3];done)|(simp[okT];omega),by first|exact BX.out|exact BX.drewN _⟩
   ·have g3:decide (0≤n)=true:=dqt (by omega)
    have g4:decide (n≤40)=true:=dqt (by omega)
    go_wp2_with (first|(go_at_call 201;(with_reducible refine cmo (SN.out _ _) ?_);rintro e w1 ⟨rfl,rfl⟩))
    go_meet
    exact⟨rfl,rfl,by first|rfl|(simp[okT,g3,g4];done)|(simp[okT];omega),by first|exact BX.out|exact BX.drewN _⟩
  by_cases h4:o=4
  ·subst h4
   go_wp2_with (first|(go_at_call 201;(with_reducible refine cmo (SN.out _ _) ?_);rintro e w1 ⟨rfl,rfl⟩))
   go_meet
   exact⟨rfl,rfl,by first|rfl|(simp[okT, *];done)|(simp[okT];omega),by first|exact BX.out|exact BX.drewN _⟩
  by_cases h5:o=5
  ·subst h5
   by_cases g1:n<0
   ·have g3:decide (0≤n)=false:=dqf (by omega)
    go_wp2_with (first|(go_at_call 201;(with_reducible refine cmo (SN.out _ _) ?_);rintro e w1 ⟨rfl,rfl⟩))
    go_meet
    exact⟨rfl,rfl,by first|rfl|(simp[okT,g3];done)|(simp[okT];omega),by first|exact BX.out|exact BX.drewN _⟩
   by_cases g2:15<n
   ·have g3:decide (n≤15)=false:=dqf (by omega)
    go_wp2_with (first|(go_at_call 201;(with_reducible refine cmo (SN.out _ _) ?_);rintro e w1 ⟨rfl,rfl⟩))
    go_meet
    exact⟨rfl,rfl,by first|rfl|(simp[okT,g3];done)|(simp[okT];omega),by first|exact BX.out|exact BX.drewN _⟩
   ·have g3:decide (0≤n)=true:=dqt (by omega)
    have g4:decide (n≤15)=true:=dqt (by omega)
    go_wp2_with (first|(go_at_call 201;(with_reducible refine cmo (SN.out _ _) ?_);rintro e w1 ⟨rfl,rfl⟩))
    go_meet
    exact⟨rfl,rfl,by first|rfl|(simp[okT,g3,g4];done)|(simp[okT];omega),by first|exact BX.out|exact BX.drewN _⟩
  by_cases h6:o=6
  ·subst h6
   by_cases g1:n<2
   ·have g3:decide (2≤n)=false:=dqf (by omega)
    go_wp2_with (first|(go_at_call 201;(with_reducible refine cmo (SN.out _ _) ?_);rintro e w1 ⟨rfl,rfl⟩))
    go_meet
    exact⟨rfl,rfl,by first|rfl|(simp[okT,g3];done)|(simp[okT];omega),by first|exact BX.out|exact BX.drewN _⟩
   by_cases g2:10<n
   ·have g3:decide (n≤10)=false:=dqf (by omega)
    go_wp2_with (first|(go_at_call 201;(with_reducible refine cmo (SN.out _ _) ?_);rintro e w1 ⟨rfl,rfl⟩))
    go_meet
    exact⟨rfl,rfl,by first|rfl|(simp[okT,g3];done)|(simp[okT];omega),by first|exact BX.out|exact BX.drewN _⟩
   ·have g3:decide (2≤n)=true:=dqt (by omega)
    have g4:decide (n≤10)=true:=dqt (by omega)
    go_wp2_with (first|(go_at_call 201;(with_reducible refine cmo (SN.out _ _) ?_);rintro e w1 ⟨rfl,rfl⟩))
    go_meet
    exact⟨rfl,rfl,by first|rfl|(simp[okT,g3,g4];done)|(simp[okT];omega),by first|exact BX.out|exact BX.drewN _⟩
  by_cases h7:o=7
  ·subst h7
   by_cases g1:n<1
   ·have g3:decide (1≤n)=false:=dqf (by omega)
    have g5:decide (n≥1)=false:=dqf (by omega);obtain⟨W0,eW⟩:∃W0,((w.alloc (.cells #[I O 7,I O n,I O m,.slice p K.length c] 76))).drewN nq=W0:=⟨_,rfl⟩;rw[eW]at BX ⊢;clear eW;obtain⟨z0,z1,z2,z3⟩:=BX.cells;rw[Nat.zero_add]at z1 z2 z3
    go_wp2_with fail
    go_quiet ((go_at_call 201;exact Calls.quiet_of_same (Calls.turn (SN _ _))))
    go_wp2
    go_meet
    exact⟨rfl,rfl,by first|rfl|(simp[okT,g3];done)|(simp[okT];omega),by first|exact BX.out|exact BX.drewN _⟩
   by_cases g2:10<n
   ·have g3:decide (n≤10)=false:=dqf (by omega)
    have g5:decide (1≤n)=true:=dqt (by omega);obtain⟨W0,eW⟩:∃W0,((w.alloc (.cells #[I O 7,I O n,I O m,.slice p K.length c] 76))).drewN nq=W0:=⟨_,rfl⟩;rw[eW]at BX ⊢;clear eW;obtain⟨z0,z1,z2,z3⟩:=BX.cells;rw[Nat.zero_add]at z1 z2 z3
    go_wp2_with fail
    go_quiet ((go_at_call 201;exact Calls.quiet_of_same (Calls.turn (SN _ _))))
    go_wp2
    go_meet
    exact⟨rfl,rfl,by first|rfl|(simp[okT,g3];done)|(simp[okT];omega),by first|exact BX.out|exact BX.drewN _⟩
   ·have g3:decide (1≤n)=true:=dqt (by omega)
    have g4:decide (n≤10)=true:=dqt (by omega);obtain⟨W0,eW⟩:∃W0,((w.alloc (.cells #[I O 7,I O n,I O m,.slice p K.length c] 76))).drewN nq=W0:=⟨_,rfl⟩;rw[eW]at BX ⊢;clear eW;obtain⟨z0,z1,z2,z3⟩:=BX.cells;rw[Nat.zero_add]at z1 z2 z3
    go_wp2_with fail
    go_quiet ((go_at_call 201;exact Calls.quiet_of_same (Calls.turn (SN _ _))))
    go_wp2
    go_meet
    exact⟨rfl,rfl,by first|rfl|(simp[okT,g3,g4];done)|(simp[okT];omega),by first|exact BX.out|exact BX.drewN _⟩
  by_cases h8:o=8
  ·subst h8
   by_cases g1:n<1
   ·have g3:decide (1≤n)=false:=dqf (by omega)
    go_wp2_with (first|(go_at_call 201;(with_reducible refine cmo (SN.out _ _) ?_);rintro e w1 ⟨rfl,rfl⟩))
    go_meet
    exact⟨rfl,rfl,by first|rfl|(simp[okT,g3];done)|(simp[okT];omega),by first|exact BX.out|exact BX.drewN _⟩
   by_cases g2:10<n
   ·have g3:decide (n≤10)=false:=dqf (by omega)
    go_wp2_with (first|(go_at_call 201;(with_reducible refine cmo (SN.out _ _) ?_);rintro e w1 ⟨rfl,rfl⟩))
    go_meet
    exact⟨rfl,rfl,by first|rfl|(simp[okT,g3];done)|(simp[okT];omega),by first|exact BX.out|exact BX.drewN _⟩
   ·have g3:decide (1≤n)=true:=dqt (by omega)
    have g4:decide (n≤10)=true:=dqt (by omega)
    go_wp2_with (first|(go_at_call 201;(with_reducible refine cmo (SN.out _ _) ?_);rintro e w1 ⟨rfl,rfl⟩))
    go_meet
    exact⟨rfl,rfl,by first|rfl|(simp[okT,g3,g4];done)|(simp[okT];omega),by first|exact BX.out|exact BX.drewN _⟩
  by_cases h9:o=9
  ·subst h9
   by_cases g1:n=0
   rotate_left
   ·have g3:(n==0)=false:=beq_eq_false_iff_ne.2 g1
    go_wp2_with fail
    go_quiet (fail)
    go_wp2
    go_meet
    exact⟨rfl,rfl,by first|rfl|(simp[okT,g3];done)|(simp[okT];omega),by first|exact BX.out|exact BX.drewN _⟩
   have g3:(n==0)=true:=beq_iff_eq.2 g1
   by_cases g2:K.length=0
   ·have g4:decide ((0:Int)<(K.length:Int))=false:=dqf (by omega)
    have g5:decide (0<K.length)=false:=dqf (by omega);have g6:decide (1≤K.length)=false:=dqf (by omega);clear g1 g2
    go_wp2_with fail
    go_quiet (fail)
    go_wp2
    go_meet
    exact⟨rfl,rfl,by first|rfl|(simp[okT,g3,g6];done)|(simp[okT];omega),by first|exact BX.out|exact BX.drewN _⟩
   ·have g4:decide ((0:Int)<(K.length:Int))=true:=dqt (by omega)
    have g5:decide (0<K.length)=true:=dqt (by omega);have g6:decide (1≤K.length)=true:=dqt (by omega);clear g1 g2
    go_wp2_with fail
    go_quiet (fail)
    go_wp2
    go_meet
    exact⟨rfl,rfl,by first|rfl|(simp[okT,g3,g6];done)|(simp[okT];omega),by first|exact BX.out|exact BX.drewN _⟩
  by_cases h10:o=10
  ·subst h10
   by_cases g1:n=0
   rotate_left
   ·have g3:(n==0)=false:=beq_eq_false_iff_ne.2 g1
    go_wp2_with fail
    go_quiet (fail)
    go_wp2
    go_meet
    exact⟨rfl,rfl,by first|rfl|(simp[okT,g3];done)|(simp[okT];omega),by first|exact BX.out|exact BX.drewN _⟩
   have g3:(n==0)=true:=beq_iff_eq.2 g1
   by_cases g2:K.length=0
   ·have g4:decide ((0:Int)<(K.length:Int))=false:=dqf (by omega)
    have g5:decide (0<K.length)=false:=dqf (by omega);have g6:decide (1≤K.length)=false:=dqf (by omega);clear g1 g2
    go_wp2_with fail
    go_quiet (fail)
    go_wp2
    go_meet
    exact⟨rfl,rfl,by first|rfl|(simp[okT,g3,g6];done)|(simp[okT];omega),by first|exact BX.out|exact BX.drewN _⟩
   ·have g4:decide ((0:Int)<(K.length:Int))=true:=dqt (by omega)
    have g5:decide (0<K.length)=true:=dqt (by omega);have g6:decide (1≤K.length)=true:=dqt (by omega);clear g1 g2
    go_wp2_with fail
    go_quiet (fail)
    go_wp2
    go_meet
    exact⟨rfl,rfl,by first|rfl|(simp[okT,g3,g6];done)|(simp[okT];omega),by first|exact BX.out|exact BX.drewN _⟩
  by_cases h11:o=11
  ·subst h11
   go_wp2_with (first|(go_at_call 201;(with_reducible refine cmo (SN.out _ _) ?_);rintro e w1 ⟨rfl,rfl⟩))
   go_meet
   exact⟨rfl,rfl,by first|rfl|(simp[okT, *];done)|(simp[okT];omega),by first|exact BX.out|exact BX.drewN _⟩
  have g1:(o==1)=false:=beq_eq_false_iff_ne.2 h1;have ok:okT o n K.length=false:=by
   unfold okT;rw[if_neg h1,if_neg h2,if_neg h3,if_neg h4,if_neg h5,if_neg h6,if_neg h7,if_neg h8,if_neg (by omega),if_neg h11]
  have mo:sR o m=(m==0):=by unfold sR;rw[if_neg h7]
  have ki:kidT o K.length=0:=by unfold kidT;rw[if_neg (by omega),if_neg h11]
  have OK:=mh ok;have MO:=mh mo;have KI:=mh ki;clear ok mo ki
  go_wp2
  go_meet
  exact⟨by rw[KI.out],by rw[MO.out],by rw[OK.out],BX.out⟩
 case rest =>
  obtain⟨rfl,rfl,rfl,hbx⟩:=hcut;clear BX SN;obtain⟨A,eA⟩:∃x,okT o n K.length=x:=⟨_,rfl⟩;obtain⟨M,eM⟩:∃x,sR o m=x:=⟨_,rfl⟩;obtain⟨N,eN⟩:∃x,kidT o K.length=x:=⟨_,rfl⟩;rw[eA,eM,eN]at SR;rw[eA,eM,eN];clear eA eM eN;have HB:=mh hbx.below;have HT2:=mh (HT.below hbx.below);obtain⟨z0,z1,z2,z3⟩:=hbx.cells;rw[Nat.zero_add]at z1 z2 z3;simp only at z0 z1 z2 z3;clear hbx
  cases A
  ·have HV:=mh (show V=false by rw[SR.out,Bool.false_and,Bool.false_and])
   clear SR
   go_wp2
   go_ret
   exact⟨qT HV.symm,HB.out⟩
  cases M
  ·have HV:=mh (show V=false by rw[SR.out,Bool.false_and,Bool.and_false,Bool.false_and])
   clear SR
   go_wp2
   go_ret
   exact⟨qT HV.symm,HB.out⟩
  by_cases hk:(K.length:Int)=N
  rotate_left
  ·have HV:=mh (show V=false by rw[SR.out,dqf hk,Bool.and_false,Bool.and_false,Bool.false_and])
   have hk1:((K.length:Int) != N)=true:=bne_iff_ne.2 hk;clear SR
   go_wp2
   go_ret
   exact⟨qT HV.symm,HB.out⟩
  subst hk;have SV:=mh (show V=uZ K by rw[SR.out,dqt rfl,Bool.and_true,Bool.and_true,Bool.true_and]);clear SR
  go_wp2
  go_loopw [122] (fun i wr=>∃j:Nat,j≤K.length∧i=I O j∧uZ (K.take j)=true∧Below w.heap.size w wr) (fun i _=>K.length - (intOf i).toNat)
  case atStart=>exact⟨0,Nat.zero_le _,rfl,rfl,HB.out⟩
  case round =>
   obtain⟨wo,rfl⟩:∃wo:World,wo=wr:=⟨_,rfl⟩;obtain⟨j,hj,rfl,hf,hb⟩:=hrel;have HF:=mh hf;have HB2:=mh hb;have hj0:(0:Int)≤(j:Int):=inn _
   by_cases hlt:j<K.length
   ·have hj1:(j:Int)<(K.length:Int):=by omega
    obtain⟨e,b,off,k,rfl,rfl,hbl,hcs,hv⟩:=(HT.below hb).kid hlt;obtain⟨c0,c1,c2,c3⟩:=hcs;have HK:=mh (IH e (by omega) k K[j] _ (hv.below ((brf _ _).alloc mle (.cells #[I O k.op,I O k.num,I O k.more,.slice k.p k.n k.c] 76))));have HS:=mh (fun h=>jCA hlt HF h);have HX:=mh (fun h=>xUA hlt h);obtain⟨B,eB⟩:∃x,form K[j]=x:=⟨_,rfl⟩;rw[eB]at HK HS HX;clear hv hb hf eB
    cases B
    ·have HV:=mh (SV.trans (HX rfl))
     go_wp2_with (first|(go_at_call 171;(with_reducible refine cmo HK.out ?_);rintro e w1 ⟨rfl,hb1⟩))
     go_ret
     exact⟨qT HV.symm,qZ mle (qK mle HB2 _) hb1⟩
    ·have HS2:=mh (HS rfl)
     go_wp2_with (first|(go_at_call 171;(with_reducible refine cmo HK.out ?_);rintro e w1 ⟨rfl,hb1⟩))
     go_roundw
     case rel=>exact⟨j+1,by omega,by go_num,HS2.out,qZ mle (qK mle HB2 _) hb1⟩
     case measure=>simp[intOf];omega
   ·obtain rfl:j=K.length:=by omega
    have HV:=mh (show V=true by rw[SV.out];rw[List.take_length]at hf;exact hf);clear hb hf
    go_wp2
    go_ret
    exact⟨qT HV.symm,HB2.out⟩
theorem cU {Q:Nat→Prop}(d:Nat)(r:RT)(t:Tm)(w:World)(h:TV Q w d r t)(hz:count t≤1099511627776) :
  Calls Tryz.prog 126 #[.agg #[I O r.op,I O r.num,I O r.more,.slice r.p r.n r.c]] w (kW (gH t) w):=by
 have B0:=Bx.box w r 76;have CT:=mh (rJ d r t _ (h.below B0.below) hz);have DP:=mh (fun (W:World) (hW:Bx w W r)=>lD d r t W (h.below hW.below) hz);have FM:=mh (fun (W:World) (hW:Bx w W r)=>kFA d r t W (h.below hW.below));have HX:=mh B0;have hdc:=uC t;have BN:=mh (fun (W W' : World) (hW:Bx w W r) (hb:Below W.heap.size W W')=>show Bx w W' r from⟨qZ mle hW.below hb,⟨(hb.cell (p:=⟨w.heap.size,0,none⟩) hW.lt).trans hW.cells.c0,(hb.cell (p:=⟨w.heap.size,0+1,none⟩) hW.lt).trans hW.cells.c1,(hb.cell (p:=⟨w.heap.size,0+2,none⟩) hW.lt).trans hW.cells.c2,(hb.cell (p:=⟨w.heap.size,0+3,none⟩) hW.lt).trans hW.cells.c3⟩,nll hW.lt hb.size⟩);have CR:=mh (show gH t=if 40<count t then 1 else if 8<xU t∨form t=false then 16 else 0 from rfl);obtain⟨V,eV⟩:∃x,gH t=x:=⟨_,rfl⟩;rw[eV]at CR ⊢;obtain⟨D,eD⟩:∃x,xU t=x:=⟨_,rfl⟩;rw[eD]at CR DP hdc;obtain⟨B,eB⟩:∃x,form t=x:=⟨_,rfl⟩;rw[eB]at CR FM;clear h B0 eV eD eB
 by_cases h1:40<count t
 ·have HV:=mh (show V=1 by rw[CR.out,if_pos h1])
  clear CR
  go_enter Tryz.func126,Tryz.ntmps126
  go_wp2_with (first|((go_at_call 169;(with_reducible refine cmo CT.out ?_);rintro e w1 ⟨N,hN,rfl,hb1⟩;have n1:=hN.1;have n2:=hN.2.1;have HX1:=mh (BN _ _ HX hb1);have DP1:=mh (DP _ HX1);obtain⟨k0,k1,k2,k3⟩:=HX1.cells;rw[Nat.zero_add]at k1 k2 k3;clear hN hb1);have n3:¬N≤40:=(by have:=n2 h1;omega);have n4:40<N:=(by omega);clear n1 n2))
  go_ret
  exact⟨qA HV.symm,HX1.below⟩
 by_cases h2:8<D
 ·have HV:=mh (show V=16 by rw[CR.out,if_neg h1,if_pos (.inl h2)])
  clear CR
  go_enter Tryz.func126,Tryz.ntmps126
  go_wp2_with (first|((go_at_call 169;(with_reducible refine cmo CT.out ?_);rintro e w1 ⟨N,hN,rfl,hb1⟩;have n1:=hN.1;have n2:=hN.2.1;have HX1:=mh (BN _ _ HX hb1);have DP1:=mh (DP _ HX1);obtain⟨k0,k1,k2,k3⟩:=HX1.cells;rw[Nat.zero_add]at k1 k2 k3;clear hN hb1);have n3:N≤40:=(by have:=n1 (by omega);omega);clear n1 n2)|(go_at_call 170;(with_reducible refine cmo DP1.out ?_);rintro e w2 ⟨rfl,hb2⟩;have HX2:=mh (BN _ _ HX1 hb2);have FM2:=mh (FM _ HX2);obtain⟨j0,j1,j2,j3⟩:=HX2.cells;rw[Nat.zero_add]at j1 j2 j3;clear hb2))
  go_ret
  exact⟨qA HV.symm,HX2.below⟩
 cases B
 ·have HV:=mh (show V=16 by rw[CR.out,if_neg h1,if_pos (.inr rfl)])
  clear CR
  go_enter Tryz.func126,Tryz.ntmps126
  go_wp2_with (first|((go_at_call 169;(with_reducible refine cmo CT.out ?_);rintro e w1 ⟨N,hN,rfl,hb1⟩;have n1:=hN.1;have n2:=hN.2.1;have HX1:=mh (BN _ _ HX hb1);have DP1:=mh (DP _ HX1);obtain⟨k0,k1,k2,k3⟩:=HX1.cells;rw[Nat.zero_add]at k1 k2 k3;clear hN hb1);have n3:N≤40:=(by have:=n1 (by omega);omega);clear n1 n2)|(go_at_call 170;(with_reducible refine cmo DP1.out ?_);rintro e w2 ⟨rfl,hb2⟩;have HX2:=mh (BN _ _ HX1 hb2);have FM2:=mh (FM _ HX2);obtain⟨j0,j1,j2,j3⟩:=HX2.cells;rw[Nat.zero_add]at j1 j2 j3;clear hb2)|(go_at_call 171;(with_reducible refine cmo FM2.out ?_);rintro e w3 ⟨rfl,hb3⟩;have HX3:=mh (BN _ _ HX2 hb3)))
  go_ret
  exact⟨qA HV.symm,HX3.below⟩
 ·have HV:=mh (show V=0 by rw[CR.out,if_neg h1,if_neg (by rintro (h|h);exact h2 h;cases h)])
  clear CR
  go_enter Tryz.func126,Tryz.ntmps126
  go_wp2_with (first|((go_at_call 169;(with_reducible refine cmo CT.out ?_);rintro e w1 ⟨N,hN,rfl,hb1⟩;have n1:=hN.1;have n2:=hN.2.1;have HX1:=mh (BN _ _ HX hb1);have DP1:=mh (DP _ HX1);obtain⟨k0,k1,k2,k3⟩:=HX1.cells;rw[Nat.zero_add]at k1 k2 k3;clear hN hb1);have n3:N≤40:=(by have:=n1 (by omega);omega);clear n1 n2)|(go_at_call 170;(with_reducible refine cmo DP1.out ?_);rintro e w2 ⟨rfl,hb2⟩;have HX2:=mh (BN _ _ HX1 hb2);have FM2:=mh (FM _ HX2);obtain⟨j0,j1,j2,j3⟩:=HX2.cells;rw[Nat.zero_add]at j1 j2 j3;clear hb2)|(go_at_call 171;(with_reducible refine cmo FM2.out ?_);rintro e w3 ⟨rfl,hb3⟩;have HX3:=mh (BN _ _ HX2 hb3)))
  go_ret
  exact⟨qA HV.symm,HX3.below⟩
end Go.Proofs.YtefcalgjnkigjaaGreat
