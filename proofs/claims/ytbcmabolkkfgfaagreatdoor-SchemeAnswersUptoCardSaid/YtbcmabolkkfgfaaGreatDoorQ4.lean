/- Packed. -/
import Derived.Test.YtbcmabolkkfgfaaGreatDoorQ3
set_option maxRecDepth 100000
set_option maxHeartbeats 8000000
open Go.Value renaming int → I
open Go.IntKind renaming i64 → O
namespace Go.Proofs.YtbcmabolkkfgfaaGreatDoor
open Go.RowKit Te
theorem refsingle_any (n:Int)(w:World):Calls Tryz.prog 118 #[I O n] w fun e w' => e = .returned (.bool (single n))∧w=w' :=by
 by_cases h1:n=1
 ·subst h1;go_enter Tryz.func118,Tryz.ntmps118;go_wp2;go_ret;exact⟨rfl,rfl⟩
 by_cases h2:n=2
 ·subst h2;go_enter Tryz.func118,Tryz.ntmps118;go_wp2;go_ret;exact⟨rfl,rfl⟩
 by_cases h4:n=4
 ·subst h4;go_enter Tryz.func118,Tryz.ntmps118;go_wp2;go_ret;exact⟨rfl,rfl⟩
 by_cases h8:n=8
 ·subst h8;go_enter Tryz.func118,Tryz.ntmps118;go_wp2;go_ret;exact⟨rfl,rfl⟩
 by_cases h16:n=16
 ·subst h16;go_enter Tryz.func118,Tryz.ntmps118;go_wp2;go_ret;exact⟨rfl,rfl⟩
 have e:single n=false:=by
  unfold single;simp only[Bool.or_eq_false_iff,beq_eq_false_iff_ne];omega
 rw[e];clear e;have g1:(n==1)=false:=beq_eq_false_iff_ne.2 h1;have g2:(n==2)=false:=beq_eq_false_iff_ne.2 h2;have g4:(n==4)=false:=beq_eq_false_iff_ne.2 h4;have g8:(n==8)=false:=beq_eq_false_iff_ne.2 h8;have g16:(n==16)=false:=beq_eq_false_iff_ne.2 h16
 go_enter Tryz.func118,Tryz.ntmps118
 go_wp2
 go_ret
 exact⟨rfl,rfl⟩
def okT (o n:Int) (k:Nat):Bool :=
 if o=1 then n==0 else if o=2 then decide (0≤n)&&decide (n<40) else if o=3 then decide (0≤n)&&decide (n≤40) else if o=4 then single n
 else if o=5 then decide (0≤n)&&decide (n≤15) else if o=6 then decide (2≤n)&&decide (n≤10) else if o=7 then decide (1≤n)&&decide (n≤10) else if o=8 then decide (1≤n)&&decide (n≤10)
 else if o=9∨o=10 then n==0&&decide (1≤k) else if o=11 then n==0 else false
def moreT (o m:Int):Bool:=if o=7 then single m else m==0
def kidT (o:Int) (k:Nat):Int:=if o=9∨o=10 then (k:Int) else if o=11 then 1 else 0
theorem self_ref (o n m:Int)(k:Nat):selfB o n m k=(okT o n k&&(moreT o m&&decide ((k:Int)=kidT o k))):=by
 by_cases h:1≤o∧o≤11
 ·have:o=1∨o=2∨o=3∨o=4∨o=5∨o=6∨o=7∨o=8∨o=9∨o=10∨o=11:=by omega
  have e0:(k==0)=decide ((k:Int)=0):=by rw[Bool.eq_iff_iff,beq_iff_eq,decide_eq_true_eq];omega
  have e1:(k==1)=decide ((k:Int)=1):=by rw[Bool.eq_iff_iff,beq_iff_eq,decide_eq_true_eq];omega
  have e39:decide (n≤39)=decide (n<40):=by rw[decide_eq_decide];omega
  have ek:decide ((k:Int)=(k:Int))=true:=dqt rfl
  rcases this with rfl|rfl|rfl|rfl|rfl|rfl|rfl|rfl|rfl|rfl|rfl<;>simp[selfB,okT,moreT,kidT,e0,e1,e39,Bool.and_assoc,Bool.and_comm,Bool.and_left_comm]
 ·have e1:selfB o n m k=false:=by
   have:=self_out (o:=o) (n:=n) (m:=m) (k:=k) (by omega);unfold selfB at this ⊢;rw[if_neg (by omega),if_neg (by omega),if_neg (by omega),if_neg (by omega),if_neg (by omega),if_neg (by omega),if_neg (by omega),if_neg (by omega),if_neg (by omega),if_neg (by omega)]
  have e2:okT o n k=false:=by
   unfold okT;rw[if_neg (by omega),if_neg (by omega),if_neg (by omega),if_neg (by omega),if_neg (by omega),if_neg (by omega),if_neg (by omega),if_neg (by omega),if_neg (by omega),if_neg (by omega)]
  rw[e1,e2,Bool.false_and]
theorem form_cons (o n m:Int)(K:List Tm):form (.mk o n m K)=(selfB o n m K.length&&formL K):=by rw[form]
theorem formL_take {K:List Tm}{j:Nat}(h:j<K.length)(h2:formL (K.take j)=true)(h3:form K[j]=true):formL (K.take (j+1))=true:=by
 rw[formL_iff]at *;intro k hk;rw[tsg h]at hk
 rcases List.mem_append.1 hk with hk|hk
 ·exact h2 k hk
 ·obtain rfl:=List.mem_singleton.1 hk;exact h3
theorem formL_bad {K:List Tm}{j:Nat}(h:j<K.length)(h3:form K[j]=false):formL K=false:=by
 rw[Bool.eq_false_iff];intro e;rw[formL_iff]at e;rw[e _ (List.getElem_mem h)]at h3
 cases h3
structure Bx (w wx:World) (r:RT):Prop where
 below:Below w.heap.size w wx
 cells:TCells wx w.heap.size 0 r
 lt:w.heap.size<wx.heap.size
theorem Bx.drewN {w wx:World}{r:RT}(h:Bx w wx r)(k:Nat):Bx w (wx.drewN k) r :=
 ⟨h.below.trans ((drewN_below _ _).mono h.below.size),⟨h.cells.c0,h.cells.c1,h.cells.c2,h.cells.c3⟩,h.lt⟩
theorem Bx.box (w:World)(r:RT)(T:TypeId):Bx w (w.alloc (.cells #[I O r.op,I O r.num,I O r.more,.slice r.p r.n r.c] T)) r :=
 ⟨(brf _ _).alloc mle _,⟨cwn _ _ _ 0,cwn _ _ _ 1,cwn _ _ _ 2,cwn _ _ _ 3⟩,by simp⟩
theorem form_any {Q:Nat→Prop}:∀(d:Nat) (r:RT) (t:Tm) (w:World),TV Q w d r t →
  Calls Tryz.prog 92 #[.agg #[I O r.op,I O r.num,I O r.more,.slice r.p r.n r.c]] w (BoolG (form t) w):=by
 intro d
 induction d using Nat.strongRecOn with
 | _ d ih =>
 intro r t w h;obtain⟨o,n,m,p,l,c⟩:=r;obtain⟨t0,tn,tm,K⟩:=t;obtain rfl:o=t0:=h.is.op;obtain rfl:n=tn:=h.is.num;obtain rfl:m=tm:=h.is.more;have hat:TmsAt Q w d p K:=h.at_;have hlen:l=K.length:=h.is.n;have hn:=hat.len;simp only;subst hlen;have SR:=mh ((form_cons o n m K).trans (by rw[self_ref]));have HT:=mh hat;have IH:=mh ih;have SN:=mh (fun x W=>refsingle_any x W);obtain⟨V,eV⟩:∃x,form (.mk o n m K)=x:=⟨_,rfl⟩;rw[eV]at SR ⊢;clear h ih hat eV
 go_enter Tryz.func92,Tryz.ntmps92
 go_wp2_with fail
 go_quiet (fail)
 have BX:=mh ((Bx.box w ⟨o,n,m,p,K.length,c⟩ 28).drewN nq);simp only at BX
 go_upto_block 0 with (fail)
 go_cut [3,4,5] (fun s3 s4 s5 wx=>s3=I O (kidT o K.length)∧s4 = .bool (moreT o m)∧s5 = .bool (okT o n K.length)∧Bx w wx ⟨o,n,m,p,K.length,c⟩)
 case first =>
  by_cases h1:o=1
  ·subst h1
   go_wp2_with (first|(go_at_call 118;(with_reducible refine cmo (SN.out _ _) ?_);rintro e w1 ⟨rfl,rfl⟩))
   go_meet
   exact⟨rfl,rfl,by first|rfl|(simp[okT, *];done)|(simp[okT];omega),by first|exact BX.out|exact BX.out.drewN _⟩
  by_cases h2:o=2
  ·subst h2
   by_cases g1:n<0
   ·have g3:decide (0≤n)=false:=dqf (by omega)
    go_wp2_with (first|(go_at_call 118;(with_reducible refine cmo (SN.out _ _) ?_);rintro e w1 ⟨rfl,rfl⟩))
    go_meet
    exact⟨rfl,rfl,by first|rfl|(simp[okT,g3];done)|(simp[okT];omega),by first|exact BX.out|exact BX.out.drewN _⟩
   by_cases g2:39<n
   ·have g3:decide (n<40)=false:=dqf (by omega)
    go_wp2_with (first|(go_at_call 118;(with_reducible refine cmo (SN.out _ _) ?_);rintro e w1 ⟨rfl,rfl⟩))
    go_meet
    exact⟨rfl,rfl,by first|rfl|(simp[okT,g3];done)|(simp[okT];omega),by first|exact BX.out|exact BX.out.drewN _⟩
   ·have g3:decide (0≤n)=true:=dqt (by omega)
    have g4:decide (n<40)=true:=dqt (by omega)
    go_wp2_with (first|(go_at_call 118;(with_reducible refine cmo (SN.out _ _) ?_);rintro e w1 ⟨rfl,rfl⟩))
    go_meet
    exact⟨rfl,rfl,by first|rfl|(simp[okT,g3,g4];done)|(simp[okT];omega),by first|exact BX.out|exact BX.out.drewN _⟩
  by_cases h3:o=3
  ·subst h3
   by_cases g1:n<0
   ·have g3:decide (0≤n)=false:=dqf (by omega)
    go_wp2_with (first|(go_at_call 118;(with_reducible refine cmo (SN.out _ _) ?_);rintro e w1 ⟨rfl,rfl⟩))
    go_meet
    exact⟨rfl,rfl,by first|rfl|(simp[okT,g3];done)|(simp[okT];omega),by first|exact BX.out|exact BX.out.drewN _⟩
   by_cases g2:40<n
   ·have g3:decide (n≤40)=false:=dqf (by omega)
    go_wp2_with (first|(go_at_call 118;(with_reducible refine cmo (SN.out _ _) ?_);rintro e w1 ⟨rfl,rfl⟩))
    go_meet
    exact⟨rfl,rfl,by first|rfl|(simp[okT,g3];done)|(simp[okT];omega),by first|exact BX.out|exact BX.out.drewN _⟩
   ·have g3:decide (0≤n)=true:=dqt (by omega)
    have g4:decide (n≤40)=true:=dqt (by omega)
    go_wp2_with (first|(go_at_call 118;(with_reducible refine cmo (SN.out _ _) ?_);rintro e w1 ⟨rfl,rfl⟩))
    go_meet
    exact⟨rfl,rfl,by first|rfl|(simp[okT,g3,g4];done)|(simp[okT];omega),by first|exact BX.out|exact BX.out.drewN _⟩
  by_cases h4:o=4
  ·subst h4
   go_wp2_with (first|(go_at_call 118;(with_reducible refine cmo (SN.out _ _) ?_);rintro e w1 ⟨rfl,rfl⟩))
   go_meet
   exact⟨rfl,rfl,by first|rfl|(simp[okT, *];done)|(simp[okT];omega),by first|exact BX.out|exact BX.out.drewN _⟩
  by_cases h5:o=5
  ·subst h5
   by_cases g1:n<0
   ·have g3:decide (0≤n)=false:=dqf (by omega)
    go_wp2_with (first|(go_at_call 118;(with_reducible refine cmo (SN.out _ _) ?_);rintro e w1 ⟨rfl,rfl⟩))
    go_meet
    exact⟨rfl,rfl,by first|rfl|(simp[okT,g3];done)|(simp[okT];omega),by first|exact BX.out|exact BX.out.drewN _⟩
   by_cases g2:15<n
   ·have g3:decide (n≤15)=false:=dqf (by omega)
    go_wp2_with (first|(go_at_call 118;(with_reducible refine cmo (SN.out _ _) ?_);rintro e w1 ⟨rfl,rfl⟩))
    go_meet
    exact⟨rfl,rfl,by first|rfl|(simp[okT,g3];done)|(simp[okT];omega),by first|exact BX.out|exact BX.out.drewN _⟩
   ·have g3:decide (0≤n)=true:=dqt (by omega)
    have g4:decide (n≤15)=true:=dqt (by omega)
    go_wp2_with (first|(go_at_call 118;(with_reducible refine cmo (SN.out _ _) ?_);rintro e w1 ⟨rfl,rfl⟩))
    go_meet
    exact⟨rfl,rfl,by first|rfl|(simp[okT,g3,g4];done)|(simp[okT];omega),by first|exact BX.out|exact BX.out.drewN _⟩
  by_cases h6:o=6
  ·subst h6
   by_cases g1:n<2
   ·have g3:decide (2≤n)=false:=dqf (by omega)
    go_wp2_with (first|(go_at_call 118;(with_reducible refine cmo (SN.out _ _) ?_);rintro e w1 ⟨rfl,rfl⟩))
    go_meet
    exact⟨rfl,rfl,by first|rfl|(simp[okT,g3];done)|(simp[okT];omega),by first|exact BX.out|exact BX.out.drewN _⟩
   by_cases g2:10<n
   ·have g3:decide (n≤10)=false:=dqf (by omega)
    go_wp2_with (first|(go_at_call 118;(with_reducible refine cmo (SN.out _ _) ?_);rintro e w1 ⟨rfl,rfl⟩))
    go_meet
    exact⟨rfl,rfl,by first|rfl|(simp[okT,g3];done)|(simp[okT];omega),by first|exact BX.out|exact BX.out.drewN _⟩
   ·have g3:decide (2≤n)=true:=dqt (by omega)
    have g4:decide (n≤10)=true:=dqt (by omega)
    go_wp2_with (first|(go_at_call 118;(with_reducible refine cmo (SN.out _ _) ?_);rintro e w1 ⟨rfl,rfl⟩))
    go_meet
    exact⟨rfl,rfl,by first|rfl|(simp[okT,g3,g4];done)|(simp[okT];omega),by first|exact BX.out|exact BX.out.drewN _⟩
  by_cases h7:o=7
  ·subst h7
   by_cases g1:n<1
   ·have g3:decide (1≤n)=false:=dqf (by omega)
    have g5:decide (n≥1)=false:=dqf (by omega);obtain⟨W0,eW⟩:∃W0,((w.alloc (.cells #[I O 7,I O n,I O m,.slice p K.length c] 28))).drewN nq=W0:=⟨_,rfl⟩;rw[eW]at BX ⊢;clear eW;obtain⟨z0,z1,z2,z3⟩:=BX.out.cells;rw[Nat.zero_add]at z1 z2 z3
    go_wp2_with fail
    go_quiet ((go_at_call 118;exact Calls.quiet_of_same (Calls.turn (SN.out _ _))))
    go_wp2
    go_meet
    exact⟨rfl,rfl,by first|rfl|(simp[okT,g3];done)|(simp[okT];omega),by first|exact BX.out|exact BX.out.drewN _⟩
   by_cases g2:10<n
   ·have g3:decide (n≤10)=false:=dqf (by omega)
    have g5:decide (1≤n)=true:=dqt (by omega);obtain⟨W0,eW⟩:∃W0,((w.alloc (.cells #[I O 7,I O n,I O m,.slice p K.length c] 28))).drewN nq=W0:=⟨_,rfl⟩;rw[eW]at BX ⊢;clear eW;obtain⟨z0,z1,z2,z3⟩:=BX.out.cells;rw[Nat.zero_add]at z1 z2 z3
    go_wp2_with fail
    go_quiet ((go_at_call 118;exact Calls.quiet_of_same (Calls.turn (SN.out _ _))))
    go_wp2
    go_meet
    exact⟨rfl,rfl,by first|rfl|(simp[okT,g3];done)|(simp[okT];omega),by first|exact BX.out|exact BX.out.drewN _⟩
   ·have g3:decide (1≤n)=true:=dqt (by omega)
    have g4:decide (n≤10)=true:=dqt (by omega);obtain⟨W0,eW⟩:∃W0,((w.alloc (.cells #[I O 7,I O n,I O m,.slice p K.length c] 28))).drewN nq=W0:=⟨_,rfl⟩;rw[eW]at BX ⊢;clear eW;obtain⟨z0,z1,z2,z3⟩:=BX.out.cells;rw[Nat.zero_add]at z1 z2 z3
    go_wp2_with fail
    go_quiet ((go_at_call 118;exact Calls.quiet_of_same (Calls.turn (SN.out _ _))))
    go_wp2
    go_meet
    exact⟨rfl,rfl,by first|rfl|(simp[okT,g3,g4];done)|(simp[okT];omega),by first|exact BX.out|exact BX.out.drewN _⟩
  by_cases h8:o=8
  ·subst h8
   by_cases g1:n<1
   ·have g3:decide (1≤n)=false:=dqf (by omega)
    go_wp2_with (first|(go_at_call 118;(with_reducible refine cmo (SN.out _ _) ?_);rintro e w1 ⟨rfl,rfl⟩))
    go_meet
    exact⟨rfl,rfl,by first|rfl|(simp[okT,g3];done)|(simp[okT];omega),by first|exact BX.out|exact BX.out.drewN _⟩
   by_cases g2:10<n
   ·have g3:decide (n≤10)=false:=dqf (by omega)
    go_wp2_with (first|(go_at_call 118;(with_reducible refine cmo (SN.out _ _) ?_);rintro e w1 ⟨rfl,rfl⟩))
    go_meet
    exact⟨rfl,rfl,by first|rfl|(simp[okT,g3];done)|(simp[okT];omega),by first|exact BX.out|exact BX.out.drewN _⟩
   ·have g3:decide (1≤n)=true:=dqt (by omega)
    have g4:decide (n≤10)=true:=dqt (by omega)
    go_wp2_with (first|(go_at_call 118;(with_reducible refine cmo (SN.out _ _) ?_);rintro e w1 ⟨rfl,rfl⟩))
    go_meet
    exact⟨rfl,rfl,by first|rfl|(simp[okT,g3,g4];done)|(simp[okT];omega),by first|exact BX.out|exact BX.out.drewN _⟩
  by_cases h9:o=9
  ·subst h9
   by_cases g1:n=0
   rotate_left
   ·have g3:(n==0)=false:=beq_eq_false_iff_ne.2 g1
    go_wp2_with fail
    go_quiet (fail)
    go_wp2
    go_meet
    exact⟨rfl,rfl,by first|rfl|(simp[okT,g3];done)|(simp[okT];omega),by first|exact BX.out|exact BX.out.drewN _⟩
   have g3:(n==0)=true:=beq_iff_eq.2 g1
   by_cases g2:K.length=0
   ·have g4:decide ((0:Int)<(K.length:Int))=false:=dqf (by omega)
    have g5:decide (0<K.length)=false:=dqf (by omega);have g6:decide (1≤K.length)=false:=dqf (by omega);clear g1 g2
    go_wp2_with fail
    go_quiet (fail)
    go_wp2
    go_meet
    exact⟨rfl,rfl,by first|rfl|(simp[okT,g3,g6];done)|(simp[okT];omega),by first|exact BX.out|exact BX.out.drewN _⟩
   ·have g4:decide ((0:Int)<(K.length:Int))=true:=dqt (by omega)
    have g5:decide (0<K.length)=true:=dqt (by omega);have g6:decide (1≤K.length)=true:=dqt (by omega);clear g1 g2
    go_wp2_with fail
    go_quiet (fail)
    go_wp2
    go_meet
    exact⟨rfl,rfl,by first|rfl|(simp[okT,g3,g6];done)|(simp[okT];omega),by first|exact BX.out|exact BX.out.drewN _⟩
  by_cases h10:o=10
  ·subst h10
   by_cases g1:n=0
   rotate_left
   ·have g3:(n==0)=false:=beq_eq_false_iff_ne.2 g1
    go_wp2_with fail
    go_quiet (fail)
    go_wp2
    go_meet
    exact⟨rfl,rfl,by first|rfl|(simp[okT,g3];done)|(simp[okT];omega),by first|exact BX.out|exact BX.out.drewN _⟩
   have g3:(n==0)=true:=beq_iff_eq.2 g1
   by_cases g2:K.length=0
   ·have g4:decide ((0:Int)<(K.length:Int))=false:=dqf (by omega)
    have g5:decide (0<K.length)=false:=dqf (by omega);have g6:decide (1≤K.length)=false:=dqf (by omega);clear g1 g2
    go_wp2_with fail
    go_quiet (fail)
    go_wp2
    go_meet
    exact⟨rfl,rfl,by first|rfl|(simp[okT,g3,g6];done)|(simp[okT];omega),by first|exact BX.out|exact BX.out.drewN _⟩
   ·have g4:decide ((0:Int)<(K.length:Int))=true:=dqt (by omega)
    have g5:decide (0<K.length)=true:=dqt (by omega);have g6:decide (1≤K.length)=true:=dqt (by omega);clear g1 g2
    go_wp2_with fail
    go_quiet (fail)
    go_wp2
    go_meet
    exact⟨rfl,rfl,by first|rfl|(simp[okT,g3,g6];done)|(simp[okT];omega),by first|exact BX.out|exact BX.out.drewN _⟩
  by_cases h11:o=11
  ·subst h11
   go_wp2_with (first|(go_at_call 118;(with_reducible refine cmo (SN.out _ _) ?_);rintro e w1 ⟨rfl,rfl⟩))
   go_meet
   exact⟨rfl,rfl,by first|rfl|(simp[okT, *];done)|(simp[okT];omega),by first|exact BX.out|exact BX.out.drewN _⟩
  have g1:(o==1)=false:=beq_eq_false_iff_ne.2 h1;have ok:okT o n K.length=false:=by
   unfold okT;rw[if_neg h1,if_neg h2,if_neg h3,if_neg h4,if_neg h5,if_neg h6,if_neg h7,if_neg h8,if_neg (by omega),if_neg h11]
  have mo:moreT o m=(m==0):=by unfold moreT;rw[if_neg h7]
  have ki:kidT o K.length=0:=by unfold kidT;rw[if_neg (by omega),if_neg h11]
  have OK:=mh ok;have MO:=mh mo;have KI:=mh ki;clear ok mo ki
  go_wp2
  go_meet
  exact⟨by rw[KI.out],by rw[MO.out],by rw[OK.out],BX.out⟩
 case rest =>
  obtain⟨rfl,rfl,rfl,hbx⟩:=hcut;clear BX SN;obtain⟨A,eA⟩:∃x,okT o n K.length=x:=⟨_,rfl⟩;obtain⟨M,eM⟩:∃x,moreT o m=x:=⟨_,rfl⟩;obtain⟨N,eN⟩:∃x,kidT o K.length=x:=⟨_,rfl⟩;rw[eA,eM,eN]at SR;rw[eA,eM,eN];clear eA eM eN;have HB:=mh hbx.below;have HT2:=mh (HT.out.below hbx.below);obtain⟨z0,z1,z2,z3⟩:=hbx.cells;rw[Nat.zero_add]at z1 z2 z3;simp only at z0 z1 z2 z3;clear hbx
  cases A
  ·have HV:=mh (show V=false by rw[SR.out,Bool.false_and,Bool.false_and])
   clear SR
   go_wp2
   go_ret
   exact⟨ret_bool HV.out.symm,HB.out⟩
  cases M
  ·have HV:=mh (show V=false by rw[SR.out,Bool.false_and,Bool.and_false,Bool.false_and])
   clear SR
   go_wp2
   go_ret
   exact⟨ret_bool HV.out.symm,HB.out⟩
  by_cases hk:(K.length:Int)=N
  rotate_left
  ·have HV:=mh (show V=false by rw[SR.out,dqf hk,Bool.and_false,Bool.and_false,Bool.false_and])
   have hk1:((K.length:Int) != N)=true:=bne_iff_ne.2 hk;clear SR
   go_wp2
   go_ret
   exact⟨ret_bool HV.out.symm,HB.out⟩
  subst hk;have SV:=mh (show V=formL K by rw[SR.out,dqt rfl,Bool.and_true,Bool.and_true,Bool.true_and]);clear SR
  go_wp2
  go_loopw [122] (fun i wr=>∃j:Nat,j≤K.length∧i=I O j∧formL (K.take j)=true∧Below w.heap.size w wr) (fun i _=>K.length - (intOf i).toNat)
  case atStart=>exact⟨0,Nat.zero_le _,rfl,rfl,HB.out⟩
  case round =>
   obtain⟨wo,rfl⟩:∃wo:World,wo=wr:=⟨_,rfl⟩;obtain⟨j,hj,rfl,hf,hb⟩:=hrel;have HF:=mh hf;have HB2:=mh hb;have hj0:(0:Int)≤(j:Int):=inn _
   by_cases hlt:j<K.length
   ·have hj1:(j:Int)<(K.length:Int):=by omega
    obtain⟨e,b,off,k,rfl,rfl,hbl,hcs,hv⟩:=(HT.out.below hb).kid hlt;obtain⟨c0,c1,c2,c3⟩:=hcs;have HK:=mh (IH.out e (by omega) k K[j] _ (hv.below ((brf _ _).alloc mle (.cells #[I O k.op,I O k.num,I O k.more,.slice k.p k.n k.c] 28))));have HS:=mh (fun h=>formL_take hlt HF.out h);have HX:=mh (fun h=>formL_bad hlt h);obtain⟨B,eB⟩:∃x,form K[j]=x:=⟨_,rfl⟩;rw[eB]at HK HS HX;clear hv hb hf eB
    cases B
    ·have HV:=mh (SV.out.trans (HX.out rfl))
     go_wp2_with (first|(go_at_call 92;(with_reducible refine cmo HK.out ?_);rintro e w1 ⟨rfl,hb1⟩))
     go_ret
     exact⟨ret_bool HV.out.symm,bstep mle (balloc mle HB2.out _) hb1⟩
    ·have HS2:=mh (HS.out rfl)
     go_wp2_with (first|(go_at_call 92;(with_reducible refine cmo HK.out ?_);rintro e w1 ⟨rfl,hb1⟩))
     go_roundw
     case rel=>exact⟨j+1,by omega,by go_num,HS2.out,bstep mle (balloc mle HB2.out _) hb1⟩
     case measure=>simp[intOf];omega
   ·obtain rfl:j=K.length:=by omega
    have HV:=mh (show V=true by rw[SV.out];rw[List.take_length]at hf;exact hf);clear hb hf
    go_wp2
    go_ret
    exact⟨ret_bool HV.out.symm,HB2.out⟩
theorem refcheck16_any {Q:Nat→Prop}(d:Nat)(r:RT)(t:Tm)(w:World)(h:TV Q w d r t)(hz:count t≤1099511627776) :
  Calls Tryz.prog 53 #[.agg #[I O r.op,I O r.num,I O r.more,.slice r.p r.n r.c]] w (IntG (chkT t) w):=by
 have B0:=Bx.box w r 28;have CT:=mh (count16r_any d r t _ (h.below B0.below) hz);have DP:=mh (fun (W:World) (hW:Bx w W r)=>depth16_any d r t W (h.below hW.below) hz);have FM:=mh (fun (W:World) (hW:Bx w W r)=>form_any d r t W (h.below hW.below));have HX:=mh B0;have hdc:=depth_le_count t;have BN:=mh (fun (W W' : World) (hW:Bx w W r) (hb:Below W.heap.size W W')=>show Bx w W' r from⟨bstep mle hW.below hb,⟨(hb.cell (p:=⟨w.heap.size,0,none⟩) hW.lt).trans hW.cells.c0,(hb.cell (p:=⟨w.heap.size,0+1,none⟩) hW.lt).trans hW.cells.c1,(hb.cell (p:=⟨w.heap.size,0+2,none⟩) hW.lt).trans hW.cells.c2,(hb.cell (p:=⟨w.heap.size,0+3,none⟩) hW.lt).trans hW.cells.c3⟩,nll hW.lt hb.size⟩);have CR:=mh (show chkT t=if 40<count t then 1 else if 8<depth t∨form t=false then 16 else 0 from rfl);obtain⟨V,eV⟩:∃x,chkT t=x:=⟨_,rfl⟩;rw[eV]at CR ⊢;obtain⟨D,eD⟩:∃x,depth t=x:=⟨_,rfl⟩;rw[eD]at CR DP hdc;obtain⟨B,eB⟩:∃x,form t=x:=⟨_,rfl⟩;rw[eB]at CR FM;clear h B0 eV eD eB
 by_cases h1:40<count t
 ·have HV:=mh (show V=1 by rw[CR.out,if_pos h1])
  clear CR
  go_enter Tryz.func53,Tryz.ntmps53
  go_wp2_with (first|((go_at_call 90;(with_reducible refine cmo CT.out ?_);rintro e w1 ⟨N,hN,rfl,hb1⟩;have n1:=hN.1;have n2:=hN.2.1;have HX1:=mh (BN.out _ _ HX.out hb1);have DP1:=mh (DP.out _ HX1.out);obtain⟨k0,k1,k2,k3⟩:=HX1.out.cells;rw[Nat.zero_add]at k1 k2 k3;clear hN hb1);have n3:¬N≤40:=(by have:=n2 h1;omega);have n4:40<N:=(by omega);clear n1 n2))
  go_ret
  exact⟨ret_int HV.out.symm,HX1.out.below⟩
 by_cases h2:8<D
 ·have HV:=mh (show V=16 by rw[CR.out,if_neg h1,if_pos (.inl h2)])
  clear CR
  go_enter Tryz.func53,Tryz.ntmps53
  go_wp2_with (first|((go_at_call 90;(with_reducible refine cmo CT.out ?_);rintro e w1 ⟨N,hN,rfl,hb1⟩;have n1:=hN.1;have n2:=hN.2.1;have HX1:=mh (BN.out _ _ HX.out hb1);have DP1:=mh (DP.out _ HX1.out);obtain⟨k0,k1,k2,k3⟩:=HX1.out.cells;rw[Nat.zero_add]at k1 k2 k3;clear hN hb1);have n3:N≤40:=(by have:=n1 (by omega);omega);clear n1 n2)|(go_at_call 91;(with_reducible refine cmo DP1.out ?_);rintro e w2 ⟨rfl,hb2⟩;have HX2:=mh (BN.out _ _ HX1.out hb2);have FM2:=mh (FM.out _ HX2.out);obtain⟨j0,j1,j2,j3⟩:=HX2.out.cells;rw[Nat.zero_add]at j1 j2 j3;clear hb2))
  go_ret
  exact⟨ret_int HV.out.symm,HX2.out.below⟩
 cases B
 ·have HV:=mh (show V=16 by rw[CR.out,if_neg h1,if_pos (.inr rfl)])
  clear CR
  go_enter Tryz.func53,Tryz.ntmps53
  go_wp2_with (first|((go_at_call 90;(with_reducible refine cmo CT.out ?_);rintro e w1 ⟨N,hN,rfl,hb1⟩;have n1:=hN.1;have n2:=hN.2.1;have HX1:=mh (BN.out _ _ HX.out hb1);have DP1:=mh (DP.out _ HX1.out);obtain⟨k0,k1,k2,k3⟩:=HX1.out.cells;rw[Nat.zero_add]at k1 k2 k3;clear hN hb1);have n3:N≤40:=(by have:=n1 (by omega);omega);clear n1 n2)|(go_at_call 91;(with_reducible refine cmo DP1.out ?_);rintro e w2 ⟨rfl,hb2⟩;have HX2:=mh (BN.out _ _ HX1.out hb2);have FM2:=mh (FM.out _ HX2.out);obtain⟨j0,j1,j2,j3⟩:=HX2.out.cells;rw[Nat.zero_add]at j1 j2 j3;clear hb2)|(go_at_call 92;(with_reducible refine cmo FM2.out ?_);rintro e w3 ⟨rfl,hb3⟩;have HX3:=mh (BN.out _ _ HX2.out hb3)))
  go_ret
  exact⟨ret_int HV.out.symm,HX3.out.below⟩
 ·have HV:=mh (show V=0 by rw[CR.out,if_neg h1,if_neg (by rintro (h|h);exact h2 h;cases h)])
  clear CR
  go_enter Tryz.func53,Tryz.ntmps53
  go_wp2_with (first|((go_at_call 90;(with_reducible refine cmo CT.out ?_);rintro e w1 ⟨N,hN,rfl,hb1⟩;have n1:=hN.1;have n2:=hN.2.1;have HX1:=mh (BN.out _ _ HX.out hb1);have DP1:=mh (DP.out _ HX1.out);obtain⟨k0,k1,k2,k3⟩:=HX1.out.cells;rw[Nat.zero_add]at k1 k2 k3;clear hN hb1);have n3:N≤40:=(by have:=n1 (by omega);omega);clear n1 n2)|(go_at_call 91;(with_reducible refine cmo DP1.out ?_);rintro e w2 ⟨rfl,hb2⟩;have HX2:=mh (BN.out _ _ HX1.out hb2);have FM2:=mh (FM.out _ HX2.out);obtain⟨j0,j1,j2,j3⟩:=HX2.out.cells;rw[Nat.zero_add]at j1 j2 j3;clear hb2)|(go_at_call 92;(with_reducible refine cmo FM2.out ?_);rintro e w3 ⟨rfl,hb3⟩;have HX3:=mh (BN.out _ _ HX2.out hb3)))
  go_ret
  exact⟨ret_int HV.out.symm,HX3.out.below⟩
theorem g_pow:Tryz.prog.globalNamed "internal/strconv.uint64pow10" = some 3:=by kernel_rfl
theorem g_syn:Tryz.prog.globalNamed "strconv.ErrSyntax" = some 1:=by kernel_rfl
theorem g_rng:Tryz.prog.globalNamed "strconv.ErrRange" = some 2:=by kernel_rfl
structure Env (w:World):Prop where
 pow:Lib.TabIs Tryz.prog w "internal/strconv.uint64pow10" .u64 Lib.pow10Tab
 ml:∃m,w.cell? ⟨0,0,none⟩=some (I O m)
 syn:∃tp p,w.var? Tryz.prog "strconv.ErrSyntax" = some #[.iface tp p]
 rng:∃tp p,w.var? Tryz.prog "strconv.ErrRange" = some #[.iface tp p]
theorem var_lt {w:World}{n:String}{g:Nat}{cs:Array Value}(hg:Tryz.prog.globalNamed n=some g)(h:w.var? Tryz.prog n=some cs):g<w.heap.size:=by
 simp only[World.var?,hg,Option.bind_some]at h
 cases e:w.heap[g]? with
 | none=>rw[e]at h;cases h
 | some o=>exact(Array.getElem?_eq_some_iff.1 e).1
theorem var_same {w w' : World}{n:String}{g:Nat}{cs:Array Value}(hg:Tryz.prog.globalNamed n=some g)(h:w.var? Tryz.prog n=some cs)(e:w'.heap[g]?=w.heap[g]?):w'.var? Tryz.prog n=some cs:=by
 simp only[World.var?,hg,Option.bind_some]at h ⊢;rw[e];exact h
def gtop:Nat:=max 0 (max 3 (max 1 2))
theorem Env.top {w:World}(h:Env w):gtop<w.heap.size:=by
 obtain⟨m,hm⟩:=h.ml;obtain⟨t1,p1,h1⟩:=h.syn;obtain⟨t2,p2,h2⟩:=h.rng;have a0:=var_lt g_pow h.pow;have a1:=World.block_lt_of_cell? w _ hm;have a2:=var_lt g_syn h1;have a3:=var_lt g_rng h2;simp only at a1;unfold gtop;simp only[Nat.max_lt];exact⟨a1,a0,a2,a3⟩
theorem Env.blocks {w w' : World}(h:Env w)(e:∀g,g≤gtop→g<w.heap.size→w'.heap[g]?=w.heap[g]?):Env w' :=by
 obtain⟨m,hm⟩:=h.ml;obtain⟨t1,p1,h1⟩:=h.syn;obtain⟨t2,p2,h2⟩:=h.rng;have h0:=h.pow
 exact⟨var_same g_pow h0 (e _ (by decide) (var_lt g_pow h0)),⟨m,by rw[World.cell?_of_block (w:=w) (e _ (by decide) (World.block_lt_of_cell? w _ hm))];exact hm⟩,
  ⟨t1,p1,var_same g_syn h1 (e _ (by decide) (var_lt g_syn h1))⟩,⟨t2,p2,var_same g_rng h2 (e _ (by decide) (var_lt g_rng h2))⟩⟩
theorem Env.below {w w' : World}(h:Env w)(hb:Below w.heap.size w w'):Env w' := h.blocks fun g _ hl=>hb.block g hl
theorem Env.belowB {w w' : World}{B:Nat}(h:Env w)(hb:Below B w w')(hB:gtop<B):Env w' := h.blocks fun g hg _=>hb.block g (by omega)
theorem Env.but {w w' : World}{t:Nat}(h:Env w)(hb:But t w w')(ht:gtop<t):Env w' := h.blocks fun g hg hl=>hb.block g hl (by omega)
theorem bst {w w1 w2:World}{B:Nat}(hB:B≤w.heap.size)(h:Below B w w1)(hb:Below w1.heap.size w1 w2):Below B w w2:=h.trans (hb.mono (Nat.le_trans hB h.size))
theorem headB_false {l:List UInt8}{k:Nat}(h:Wo.headB (l.take k)=false):Wo.nameB l=false:=by
 have:Wo.headB l=false:=by
  cases e:Wo.headB l with
  | false=>rfl
  | true =>
    rw[← List.take_append_drop k l]at e;rw[Wo.headB_prefix e]at h
    cases h
 unfold Wo.nameB;rw[this];rfl
theorem ret_b {a b:Bool}(h:a=b):Ending.returned (.bool a) = .returned (.bool b):=by rw[h]
theorem byte_kinds (c:UInt8):((c.toNat:Int)<48∧Wo.letB c=false∧Wo.digB c=false)∨(48≤(c.toNat:Int)∧(c.toNat:Int)≤57∧Wo.letB c=false∧Wo.digB c=true)∨(58≤(c.toNat:Int)∧(c.toNat:Int)<97∧Wo.letB c=false∧Wo.digB c=false)∨(97≤(c.toNat:Int)∧(c.toNat:Int)≤122∧Wo.letB c=true∧Wo.digB c=false)∨(122<(c.toNat:Int)∧Wo.letB c=false∧Wo.digB c=false):=by
 simp only[Wo.letB,Wo.digB,Bool.and_eq_true,Bool.and_eq_false_iff,decide_eq_true_eq,decide_eq_false_iff_not];omega
def NameGive (l:List UInt8) (w:World) (e:Ending) (w' : World):Prop:=e = .returned (.bool (Wo.nameB l))∧w=w'
theorem name_any (s:ByteArray)(w:World)(hs:s.size≤9223372036854775807) :
  Calls Tryz.prog 49 #[.string s] w (NameGive s.data.toList w):=by
 go_enter Tryz.func49,Tryz.ntmps49
 go_wp2
 go_loop [8] (fun i=>∃k:Nat,k≤s.size∧i=I O k∧Wo.headB (s.data.toList.take k)=true) (fun i=>s.size - (intOf i).toNat)
 case atStart=>exact⟨0,Nat.zero_le _,rfl,rfl⟩
 case round =>
  obtain⟨k,hk,rfl,hh⟩:=hrel;have HH:=mh hh;clear hh;have hk0:(0:Int)≤(k:Int):=inn _
  by_cases hlt:k<s.size
  ·have HS:=mh (show Wo.headB (s.data.toList.take (k+1))=(Wo.letB s[k]||(decide (0<k)&&Wo.digB s[k])) by
    rw[Wo.take_snoc_bytes s k hlt,Wo.headB_snoc,HH.out,Bool.true_and];have:(!(s.data.toList.take k).isEmpty)=decide (0<k):=by
     rw[Bool.eq_iff_iff];simp only[Bool.not_eq_true', List.isEmpty_eq_false_iff,ne_eq,List.take_eq_nil_iff,decide_eq_true_eq,not_or];have:s.data.toList ≠ []:=fun e=>by have h9:=congrArg List.length e;rw[Array.length_toList]at h9;have:s.size=0:=h9;omega
     constructor
     ·intro h;omega
     ·intro h;exact⟨by omega,this⟩
    rw[this])
   rcases Nat.eq_zero_or_pos k with h0|hpos
   ·have e0:((k:Int)==0)=true:=by rw[h0];rfl
    have HZ:=mh h0;clear h0
    rcases byte_kinds s[k] with⟨c1,l1,d1⟩|⟨c1,c2,l1,d1⟩|⟨c1,c2,l1,d1⟩|⟨c1,c2,l1,d1⟩|⟨c1,l1,d1⟩
    all_goals
     rw[l1,d1,show decide (0<k)=false by rw[HZ.out];rfl]at HS;clear l1 d1
     first
      | have b2:decide ((s[k].toNat:Int)≤57)=true:=dqt (by omega)
      | have b2:decide ((s[k].toNat:Int)≤57)=false:=dqf (by omega)
     first
      | have b3:decide ((s[k].toNat:Int)≤122)=true:=dqt (by omega)
      | have b3:decide ((s[k].toNat:Int)≤122)=false:=dqf (by omega)
     go_wp2
     first
      | (go_round
         case rel=>exact⟨k+1,by omega,by go_num,HS.out⟩
         case measure=>simp[intOf];omega)
      | (go_ret
         exact⟨ret_b (headB_false HS.out).symm,rfl⟩)
   ·have e0:((k:Int)==0)=false:=by simp;omega
    have ez:decide (0<k)=true:=by simpa using hpos
    rcases byte_kinds s[k] with⟨c1,l1,d1⟩|⟨c1,c2,l1,d1⟩|⟨c1,c2,l1,d1⟩|⟨c1,c2,l1,d1⟩|⟨c1,l1,d1⟩
    all_goals
     rw[l1,d1,ez]at HS;clear l1 d1 ez
     first
      | have b2:decide ((s[k].toNat:Int)≤57)=true:=dqt (by omega)
      | have b2:decide ((s[k].toNat:Int)≤57)=false:=dqf (by omega)
     first
      | have b3:decide ((s[k].toNat:Int)≤122)=true:=dqt (by omega)
      | have b3:decide ((s[k].toNat:Int)≤122)=false:=dqf (by omega)
     go_wp2
     first
      | (go_round
         case rel=>exact⟨k+1,by omega,by go_num,HS.out⟩
         case measure=>simp[intOf];omega)
      | (go_ret
         exact⟨ret_b (headB_false HS.out).symm,rfl⟩)
  ·obtain rfl:k=s.size:=by omega
   have HN:=mh (show Wo.nameB s.data.toList=(decide (1≤s.size)&&decide (s.size≤12)) by
    unfold Wo.nameB;have h:=HH.out;rw[List.take_of_length_le (by rw[Array.length_toList];exact Nat.le_refl _)]at h
    rw[h,Bool.true_and,Array.length_toList];rfl)
   by_cases h1:(1:Int)≤(s.size:Int)
   ·by_cases h2:(s.size:Int)≤12
    all_goals
     go_wp2
     go_ret
     exact⟨ret_b (by rw[HN.out];simp<;>omega),rfl⟩
   ·go_wp2
    go_ret
    exact⟨ret_b (by rw[HN.out];simp<;>omega),rfl⟩
end Go.Proofs.YtbcmabolkkfgfaaGreatDoor
