/- Packed. -/
import Derived.Test.YtljibgchickcpaaGreatDoorC8
set_option maxRecDepth 100000
set_option maxHeartbeats 8000000
open Go.Value renaming int → I
open Go.IntKind renaming i64 → O
namespace Go.Proofs.YtljibgchickcpaaGreatDoor
open Go.RowKit Te
theorem refsingle_any (n:Int)(w:World):Calls Tryz.prog 171 #[I O n] w fun e w' => e = .returned (.bool (single n))∧w=w' :=by
 by_cases h1:n=1
 ·subst h1;go_enter Tryz.func171,Tryz.ntmps171;go_wp2;go_ret;exact⟨rfl,rfl⟩
 by_cases h2:n=2
 ·subst h2;go_enter Tryz.func171,Tryz.ntmps171;go_wp2;go_ret;exact⟨rfl,rfl⟩
 by_cases h4:n=4
 ·subst h4;go_enter Tryz.func171,Tryz.ntmps171;go_wp2;go_ret;exact⟨rfl,rfl⟩
 by_cases h8:n=8
 ·subst h8;go_enter Tryz.func171,Tryz.ntmps171;go_wp2;go_ret;exact⟨rfl,rfl⟩
 by_cases h16:n=16
 ·subst h16;go_enter Tryz.func171,Tryz.ntmps171;go_wp2;go_ret;exact⟨rfl,rfl⟩
 have e:single n=false:=by
  unfold single;simp only[Bool.or_eq_false_iff,beq_eq_false_iff_ne];omega
 rw[e];clear e;have g1:(n==1)=false:=beq_eq_false_iff_ne.2 h1;have g2:(n==2)=false:=beq_eq_false_iff_ne.2 h2;have g4:(n==4)=false:=beq_eq_false_iff_ne.2 h4;have g8:(n==8)=false:=beq_eq_false_iff_ne.2 h8;have g16:(n==16)=false:=beq_eq_false_iff_ne.2 h16
 go_enter Tryz.func171,Tryz.ntmps171
 go_wp2
 go_ret
 exact⟨rfl,rfl⟩
def okT (o n:Int) (k:Nat):Bool :=
 if o=1 then n==0 else if o=2 then decide (0≤n)&&decide (n<40) else if o=3 then decide (0≤n)&&decide (n≤40) else if o=4 then single n
 else if o=5 then decide (0≤n)&&decide (n≤15) else if o=6 then decide (2≤n)&&decide (n≤10) else if o=7 then decide (1≤n)&&decide (n≤10) else if o=8 then decide (1≤n)&&decide (n≤10)
 else if o=9∨o=10 then n==0&&decide (1≤k) else if o=11 then n==0 else false
def moreT (o m:Int):Bool:=if o=7 then single m else m==0
def kidT (o:Int) (k:Nat):Int:=if o=9∨o=10 then (k:Int) else if o=11 then 1 else 0
theorem self_ref (o n m:Int)(k:Nat):selfB o n m k=(okT o n k&&(moreT o m&&decide ((k:Int)=kidT o k))):=by
 by_cases h:1≤o∧o≤11
 ·have:o=1∨o=2∨o=3∨o=4∨o=5∨o=6∨o=7∨o=8∨o=9∨o=10∨o=11:=by omega
  have e0:(k==0)=decide ((k:Int)=0):=by rw[Bool.eq_iff_iff,beq_iff_eq,decide_eq_true_eq];omega
  have e1:(k==1)=decide ((k:Int)=1):=by rw[Bool.eq_iff_iff,beq_iff_eq,decide_eq_true_eq];omega
  have e39:decide (n≤39)=decide (n<40):=by rw[decide_eq_decide];omega
  have ek:decide ((k:Int)=(k:Int))=true:=dqt rfl
  rcases this with rfl|rfl|rfl|rfl|rfl|rfl|rfl|rfl|rfl|rfl|rfl<;>simp[selfB,okT,moreT,kidT,e0,e1,e39,Bool.and_assoc,Bool.and_comm,Bool.and_left_comm]
 ·have e1:selfB o n m k=false:=by
   have:=self_out (o:=o) (n:=n) (m:=m) (k:=k) (by omega);unfold selfB at this ⊢;rw[if_neg (by omega),if_neg (by omega),if_neg (by omega),if_neg (by omega),if_neg (by omega),if_neg (by omega),if_neg (by omega),if_neg (by omega),if_neg (by omega),if_neg (by omega)]
  have e2:okT o n k=false:=by
   unfold okT;rw[if_neg (by omega),if_neg (by omega),if_neg (by omega),if_neg (by omega),if_neg (by omega),if_neg (by omega),if_neg (by omega),if_neg (by omega),if_neg (by omega),if_neg (by omega)]
  rw[e1,e2,Bool.false_and]
theorem form_cons (o n m:Int)(K:List Tm):form (.mk o n m K)=(selfB o n m K.length&&formL K):=by rw[form]
theorem formL_take {K:List Tm}{j:Nat}(h:j<K.length)(h2:formL (K.take j)=true)(h3:form K[j]=true):formL (K.take (j+1))=true:=by
 rw[formL_iff]at *;intro k hk;rw[tsg h]at hk
 rcases List.mem_append.1 hk with hk|hk
 ·exact h2 k hk
 ·obtain rfl:=List.mem_singleton.1 hk;exact h3
theorem formL_bad {K:List Tm}{j:Nat}(h:j<K.length)(h3:form K[j]=false):formL K=false:=by
 rw[Bool.eq_false_iff];intro e;rw[formL_iff]at e;rw[e _ (List.getElem_mem h)]at h3
 cases h3
structure Bx (w wx:World) (r:RT):Prop where
 below:Below w.heap.size w wx
 cells:TCells wx w.heap.size 0 r
 lt:w.heap.size<wx.heap.size
theorem Bx.drewN {w wx:World}{r:RT}(h:Bx w wx r)(k:Nat):Bx w (wx.drewN k) r :=
 ⟨h.below.trans ((drewN_below _ _).mono h.below.size),⟨h.cells.c0,h.cells.c1,h.cells.c2,h.cells.c3⟩,h.lt⟩
theorem Bx.box (w:World)(r:RT)(T:TypeId):Bx w (w.alloc (.cells #[I O r.op,I O r.num,I O r.more,.slice r.p r.n r.c] T)) r :=
 ⟨(brf _ _).alloc mle _,⟨cwn _ _ _ 0,cwn _ _ _ 1,cwn _ _ _ 2,cwn _ _ _ 3⟩,by simp⟩
theorem form_any {Q:Nat→Prop}:∀(d:Nat) (r:RT) (t:Tm) (w:World),TV Q w d r t →
  Calls Tryz.prog 161 #[.agg #[I O r.op,I O r.num,I O r.more,.slice r.p r.n r.c]] w (BoolG (form t) w):=by
 intro d
 induction d using Nat.strongRecOn with
 | _ d ih =>
 intro r t w h;obtain⟨o,n,m,p,l,c⟩:=r;obtain⟨t0,tn,tm,K⟩:=t;obtain rfl:o=t0:=h.is.op;obtain rfl:n=tn:=h.is.num;obtain rfl:m=tm:=h.is.more;have hat:TmsAt Q w d p K:=h.at_;have hlen:l=K.length:=h.is.n;have hn:=hat.len;simp only;subst hlen;have SR:=mh ((form_cons o n m K).trans (by rw[self_ref]));have HT:=mh hat;have IH:=mh ih;have SN:=mh (fun x W=>refsingle_any x W);obtain⟨V,eV⟩:∃x,form (.mk o n m K)=x:=⟨_,rfl⟩;rw[eV]at SR ⊢;clear h ih hat eV
 go_enter Tryz.func161,Tryz.ntmps161
 go_wp2_with fail
 go_quiet (fail)
 have BX:=mh ((Bx.box w ⟨o,n,m,p,K.length,c⟩ 109).drewN nq);simp only at BX
 go_upto_block 0 with (fail)
 go_cut [3,4,5] (fun s3 s4 s5 wx=>s3=I O (kidT o K.length)∧s4 = .bool (moreT o m)∧s5 = .bool (okT o n K.length)∧Bx w wx ⟨o,n,m,p,K.length,c⟩)
 case first =>
  by_cases h1:o=1
  ·subst h1
   go_wp2_with (first|(go_at_call 171;(with_reducible refine cmo (SN.out _ _) ?_);rintro e w1 ⟨rfl,rfl⟩))
   go_meet
   exact⟨rfl,rfl,by first|rfl|(simp[okT, *];done)|(simp[okT];omega),by first|exact BX.out|exact BX.out.drewN _⟩
  by_cases h2:o=2
  ·subst h2
   by_cases g1:n<0
   ·have g3:decide (0≤n)=false:=dqf (by omega)
    go_wp2_with (first|(go_at_call 171;(with_reducible refine cmo (SN.out _ _) ?_);rintro e w1 ⟨rfl,rfl⟩))
    go_meet
    exact⟨rfl,rfl,by first|rfl|(simp[okT,g3];done)|(simp[okT];omega),by first|exact BX.out|exact BX.out.drewN _⟩
   by_cases g2:39<n
   ·have g3:decide (n<40)=false:=dqf (by omega)
    go_wp2_with (first|(go_at_call 171;(with_reducible refine cmo (SN.out _ _) ?_);rintro e w1 ⟨rfl,rfl⟩))
    go_meet
    exact⟨rfl,rfl,by first|rfl|(simp[okT,g3];done)|(simp[okT];omega),by first|exact BX.out|exact BX.out.drewN _⟩
   ·have g3:decide (0≤n)=true:=dqt (by omega)
    have g4:decide (n<40)=true:=dqt (by omega)
    go_wp2_with (first|(go_at_call 171;(with_reducible refine cmo (SN.out _ _) ?_);rintro e w1 ⟨rfl,rfl⟩))
    go_meet
    exact⟨rfl,rfl,by first|rfl|(simp[okT,g3,g4];done)|(simp[okT];omega),by first|exact BX.out|exact BX.out.drewN _⟩
  by_cases h3:o=3
  ·subst h3
   by_cases g1:n<0
   ·have g3:decide (0≤n)=false:=dqf (by omega)
    go_wp2_with (first|(go_at_call 171;(with_reducible refine cmo (SN.out _ _) ?_);rintro e w1 ⟨rfl,rfl⟩))
    go_meet
    exact⟨rfl,rfl,by first|rfl|(simp[okT,g3];done)|(simp[okT];omega),by first|exact BX.out|exact BX.out.drewN _⟩
   by_cases g2:40<n
   ·have g3:decide (n≤40)=false:=dqf (by omega)
    go_wp2_with (first|(go_at_call 171;(with_reducible refine cmo (SN.out _ _) ?_);rintro e w1 ⟨rfl,rfl⟩))
    go_meet
    exact⟨rfl,rfl,by first|rfl|(simp[okT,g3];done)|(simp[okT];omega),by first|exact BX.out|exact BX.out.drewN _⟩
   ·have g3:decide (0≤n)=true:=dqt (by omega)
    have g4:decide (n≤40)=true:=dqt (by omega)
    go_wp2_with (first|(go_at_call 171;(with_reducible refine cmo (SN.out _ _) ?_);rintro e w1 ⟨rfl,rfl⟩))
    go_meet
    exact⟨rfl,rfl,by first|rfl|(simp[okT,g3,g4];done)|(simp[okT];omega),by first|exact BX.out|exact BX.out.drewN _⟩
  by_cases h4:o=4
  ·subst h4
   go_wp2_with (first|(go_at_call 171;(with_reducible refine cmo (SN.out _ _) ?_);rintro e w1 ⟨rfl,rfl⟩))
   go_meet
   exact⟨rfl,rfl,by first|rfl|(simp[okT, *];done)|(simp[okT];omega),by first|exact BX.out|exact BX.out.drewN _⟩
  by_cases h5:o=5
  ·subst h5
   by_cases g1:n<0
   ·have g3:decide (0≤n)=false:=dqf (by omega)
    go_wp2_with (first|(go_at_call 171;(with_reducible refine cmo (SN.out _ _) ?_);rintro e w1 ⟨rfl,rfl⟩))
    go_meet
    exact⟨rfl,rfl,by first|rfl|(simp[okT,g3];done)|(simp[okT];omega),by first|exact BX.out|exact BX.out.drewN _⟩
   by_cases g2:15<n
   ·have g3:decide (n≤15)=false:=dqf (by omega)
    go_wp2_with (first|(go_at_call 171;(with_reducible refine cmo (SN.out _ _) ?_);rintro e w1 ⟨rfl,rfl⟩))
    go_meet
    exact⟨rfl,rfl,by first|rfl|(simp[okT,g3];done)|(simp[okT];omega),by first|exact BX.out|exact BX.out.drewN _⟩
   ·have g3:decide (0≤n)=true:=dqt (by omega)
    have g4:decide (n≤15)=true:=dqt (by omega)
    go_wp2_with (first|(go_at_call 171;(with_reducible refine cmo (SN.out _ _) ?_);rintro e w1 ⟨rfl,rfl⟩))
    go_meet
    exact⟨rfl,rfl,by first|rfl|(simp[okT,g3,g4];done)|(simp[okT];omega),by first|exact BX.out|exact BX.out.drewN _⟩
  by_cases h6:o=6
  ·subst h6
   by_cases g1:n<2
   ·have g3:decide (2≤n)=false:=dqf (by omega)
    go_wp2_with (first|(go_at_call 171;(with_reducible refine cmo (SN.out _ _) ?_);rintro e w1 ⟨rfl,rfl⟩))
    go_meet
    exact⟨rfl,rfl,by first|rfl|(simp[okT,g3];done)|(simp[okT];omega),by first|exact BX.out|exact BX.out.drewN _⟩
   by_cases g2:10<n
   ·have g3:decide (n≤10)=false:=dqf (by omega)
    go_wp2_with (first|(go_at_call 171;(with_reducible refine cmo (SN.out _ _) ?_);rintro e w1 ⟨rfl,rfl⟩))
    go_meet
    exact⟨rfl,rfl,by first|rfl|(simp[okT,g3];done)|(simp[okT];omega),by first|exact BX.out|exact BX.out.drewN _⟩
   ·have g3:decide (2≤n)=true:=dqt (by omega)
    have g4:decide (n≤10)=true:=dqt (by omega)
    go_wp2_with (first|(go_at_call 171;(with_reducible refine cmo (SN.out _ _) ?_);rintro e w1 ⟨rfl,rfl⟩))
    go_meet
    exact⟨rfl,rfl,by first|rfl|(simp[okT,g3,g4];done)|(simp[okT];omega),by first|exact BX.out|exact BX.out.drewN _⟩
  by_cases h7:o=7
  ·subst h7
   by_cases g1:n<1
   ·have g3:decide (1≤n)=false:=dqf (by omega)
    have g5:decide (n≥1)=false:=dqf (by omega);obtain⟨W0,eW⟩:∃W0,((w.alloc (.cells #[I O 7,I O n,I O m,.slice p K.length c] 109))).drewN nq=W0:=⟨_,rfl⟩;rw[eW]at BX ⊢;clear eW;obtain⟨z0,z1,z2,z3⟩:=BX.out.cells;rw[Nat.zero_add]at z1 z2 z3
    go_wp2_with fail
    go_quiet ((go_at_call 171;exact Calls.quiet_of_same (Calls.turn (SN.out _ _))))
    go_wp2
    go_meet
    exact⟨rfl,rfl,by first|rfl|(simp[okT,g3];done)|(simp[okT];omega),by first|exact BX.out|exact BX.out.drewN _⟩
   by_cases g2:10<n
   ·have g3:decide (n≤10)=false:=dqf (by omega)
    have g5:decide (1≤n)=true:=dqt (by omega);obtain⟨W0,eW⟩:∃W0,((w.alloc (.cells #[I O 7,I O n,I O m,.slice p K.length c] 109))).drewN nq=W0:=⟨_,rfl⟩;rw[eW]at BX ⊢;clear eW;obtain⟨z0,z1,z2,z3⟩:=BX.out.cells;rw[Nat.zero_add]at z1 z2 z3
    go_wp2_with fail
    go_quiet ((go_at_call 171;exact Calls.quiet_of_same (Calls.turn (SN.out _ _))))
    go_wp2
    go_meet
    exact⟨rfl,rfl,by first|rfl|(simp[okT,g3];done)|(simp[okT];omega),by first|exact BX.out|exact BX.out.drewN _⟩
   ·have g3:decide (1≤n)=true:=dqt (by omega)
    have g4:decide (n≤10)=true:=dqt (by omega);obtain⟨W0,eW⟩:∃W0,((w.alloc (.cells #[I O 7,I O n,I O m,.slice p K.length c] 109))).drewN nq=W0:=⟨_,rfl⟩;rw[eW]at BX ⊢;clear eW;obtain⟨z0,z1,z2,z3⟩:=BX.out.cells;rw[Nat.zero_add]at z1 z2 z3
    go_wp2_with fail
    go_quiet ((go_at_call 171;exact Calls.quiet_of_same (Calls.turn (SN.out _ _))))
    go_wp2
    go_meet
    exact⟨rfl,rfl,by first|rfl|(simp[okT,g3,g4];done)|(simp[okT];omega),by first|exact BX.out|exact BX.out.drewN _⟩
  by_cases h8:o=8
  ·subst h8
   by_cases g1:n<1
   ·have g3:decide (1≤n)=false:=dqf (by omega)
    go_wp2_with (first|(go_at_call 171;(with_reducible refine cmo (SN.out _ _) ?_);rintro e w1 ⟨rfl,rfl⟩))
    go_meet
    exact⟨rfl,rfl,by first|rfl|(simp[okT,g3];done)|(simp[okT];omega),by first|exact BX.out|exact BX.out.drewN _⟩
   by_cases g2:10<n
   ·have g3:decide (n≤10)=false:=dqf (by omega)
    go_wp2_with (first|(go_at_call 171;(with_reducible refine cmo (SN.out _ _) ?_);rintro e w1 ⟨rfl,rfl⟩))
    go_meet
    exact⟨rfl,rfl,by first|rfl|(simp[okT,g3];done)|(simp[okT];omega),by first|exact BX.out|exact BX.out.drewN _⟩
   ·have g3:decide (1≤n)=true:=dqt (by omega)
    have g4:decide (n≤10)=true:=dqt (by omega)
    go_wp2_with (first|(go_at_call 171;(with_reducible refine cmo (SN.out _ _) ?_);rintro e w1 ⟨rfl,rfl⟩))
    go_meet
    exact⟨rfl,rfl,by first|rfl|(simp[okT,g3,g4];done)|(simp[okT];omega),by first|exact BX.out|exact BX.out.drewN _⟩
  by_cases h9:o=9
  ·subst h9
   by_cases g1:n=0
   rotate_left
   ·have g3:(n==0)=false:=beq_eq_false_iff_ne.2 g1
    go_wp2_with fail
    go_quiet (fail)
    go_wp2
    go_meet
    exact⟨rfl,rfl,by first|rfl|(simp[okT,g3];done)|(simp[okT];omega),by first|exact BX.out|exact BX.out.drewN _⟩
   have g3:(n==0)=true:=beq_iff_eq.2 g1
   by_cases g2:K.length=0
   ·have g4:decide ((0:Int)<(K.length:Int))=false:=dqf (by omega)
    have g5:decide (0<K.length)=false:=dqf (by omega);have g6:decide (1≤K.length)=false:=dqf (by omega);clear g1 g2
    go_wp2_with fail
    go_quiet (fail)
    go_wp2
    go_meet
    exact⟨rfl,rfl,by first|rfl|(simp[okT,g3,g6];done)|(simp[okT];omega),by first|exact BX.out|exact BX.out.drewN _⟩
   ·have g4:decide ((0:Int)<(K.length:Int))=true:=dqt (by omega)
    have g5:decide (0<K.length)=true:=dqt (by omega);have g6:decide (1≤K.length)=true:=dqt (by omega);clear g1 g2
    go_wp2_with fail
    go_quiet (fail)
    go_wp2
    go_meet
    exact⟨rfl,rfl,by first|rfl|(simp[okT,g3,g6];done)|(simp[okT];omega),by first|exact BX.out|exact BX.out.drewN _⟩
  by_cases h10:o=10
  ·subst h10
   by_cases g1:n=0
   rotate_left
   ·have g3:(n==0)=false:=beq_eq_false_iff_ne.2 g1
    go_wp2_with fail
    go_quiet (fail)
    go_wp2
    go_meet
    exact⟨rfl,rfl,by first|rfl|(simp[okT,g3];done)|(simp[okT];omega),by first|exact BX.out|exact BX.out.drewN _⟩
   have g3:(n==0)=true:=beq_iff_eq.2 g1
   by_cases g2:K.length=0
   ·have g4:decide ((0:Int)<(K.length:Int))=false:=dqf (by omega)
    have g5:decide (0<K.length)=false:=dqf (by omega);have g6:decide (1≤K.length)=false:=dqf (by omega);clear g1 g2
    go_wp2_with fail
    go_quiet (fail)
    go_wp2
    go_meet
    exact⟨rfl,rfl,by first|rfl|(simp[okT,g3,g6];done)|(simp[okT];omega),by first|exact BX.out|exact BX.out.drewN _⟩
   ·have g4:decide ((0:Int)<(K.length:Int))=true:=dqt (by omega)
    have g5:decide (0<K.length)=true:=dqt (by omega);have g6:decide (1≤K.length)=true:=dqt (by omega);clear g1 g2
    go_wp2_with fail
    go_quiet (fail)
    go_wp2
    go_meet
    exact⟨rfl,rfl,by first|rfl|(simp[okT,g3,g6];done)|(simp[okT];omega),by first|exact BX.out|exact BX.out.drewN _⟩
  by_cases h11:o=11
  ·subst h11
   go_wp2_with (first|(go_at_call 171;(with_reducible refine cmo (SN.out _ _) ?_);rintro e w1 ⟨rfl,rfl⟩))
   go_meet
   exact⟨rfl,rfl,by first|rfl|(simp[okT, *];done)|(simp[okT];omega),by first|exact BX.out|exact BX.out.drewN _⟩
  have g1:(o==1)=false:=beq_eq_false_iff_ne.2 h1;have ok:okT o n K.length=false:=by
   unfold okT;rw[if_neg h1,if_neg h2,if_neg h3,if_neg h4,if_neg h5,if_neg h6,if_neg h7,if_neg h8,if_neg (by omega),if_neg h11]
  have mo:moreT o m=(m==0):=by unfold moreT;rw[if_neg h7]
  have ki:kidT o K.length=0:=by unfold kidT;rw[if_neg (by omega),if_neg h11]
  have OK:=mh ok;have MO:=mh mo;have KI:=mh ki;clear ok mo ki
  go_wp2
  go_meet
  exact⟨by rw[KI.out],by rw[MO.out],by rw[OK.out],BX.out⟩
 case rest =>
  obtain⟨rfl,rfl,rfl,hbx⟩:=hcut;clear BX SN;obtain⟨A,eA⟩:∃x,okT o n K.length=x:=⟨_,rfl⟩;obtain⟨M,eM⟩:∃x,moreT o m=x:=⟨_,rfl⟩;obtain⟨N,eN⟩:∃x,kidT o K.length=x:=⟨_,rfl⟩;rw[eA,eM,eN]at SR;rw[eA,eM,eN];clear eA eM eN;have HB:=mh hbx.below;have HT2:=mh (HT.out.below hbx.below);obtain⟨z0,z1,z2,z3⟩:=hbx.cells;rw[Nat.zero_add]at z1 z2 z3;simp only at z0 z1 z2 z3;clear hbx
  cases A
  ·have HV:=mh (show V=false by rw[SR.out,Bool.false_and,Bool.false_and])
   clear SR
   go_wp2
   go_ret
   exact⟨ret_bool HV.out.symm,HB.out⟩
  cases M
  ·have HV:=mh (show V=false by rw[SR.out,Bool.false_and,Bool.and_false,Bool.false_and])
   clear SR
   go_wp2
   go_ret
   exact⟨ret_bool HV.out.symm,HB.out⟩
  by_cases hk:(K.length:Int)=N
  rotate_left
  ·have HV:=mh (show V=false by rw[SR.out,dqf hk,Bool.and_false,Bool.and_false,Bool.false_and])
   have hk1:((K.length:Int) != N)=true:=bne_iff_ne.2 hk;clear SR
   go_wp2
   go_ret
   exact⟨ret_bool HV.out.symm,HB.out⟩
  subst hk;have SV:=mh (show V=formL K by rw[SR.out,dqt rfl,Bool.and_true,Bool.and_true,Bool.true_and]);clear SR
  go_wp2
  go_loopw [122] (fun i wr=>∃j:Nat,j≤K.length∧i=I O j∧formL (K.take j)=true∧Below w.heap.size w wr) (fun i _=>K.length - (intOf i).toNat)
  case atStart=>exact⟨0,Nat.zero_le _,rfl,rfl,HB.out⟩
  case round =>
   obtain⟨wo,rfl⟩:∃wo:World,wo=wr:=⟨_,rfl⟩;obtain⟨j,hj,rfl,hf,hb⟩:=hrel;have HF:=mh hf;have HB2:=mh hb;have hj0:(0:Int)≤(j:Int):=inn _
   by_cases hlt:j<K.length
   ·have hj1:(j:Int)<(K.length:Int):=by omega
    obtain⟨e,b,off,k,rfl,rfl,hbl,hcs,hv⟩:=(HT.out.below hb).kid hlt;obtain⟨c0,c1,c2,c3⟩:=hcs;have HK:=mh (IH.out e (by omega) k K[j] _ (hv.below ((brf _ _).alloc mle (.cells #[I O k.op,I O k.num,I O k.more,.slice k.p k.n k.c] 109))));have HS:=mh (fun h=>formL_take hlt HF.out h);have HX:=mh (fun h=>formL_bad hlt h);obtain⟨B,eB⟩:∃x,form K[j]=x:=⟨_,rfl⟩;rw[eB]at HK HS HX;clear hv hb hf eB
    cases B
    ·have HV:=mh (SV.out.trans (HX.out rfl))
     go_wp2_with (first|(go_at_call 161;(with_reducible refine cmo HK.out ?_);rintro e w1 ⟨rfl,hb1⟩))
     go_ret
     exact⟨ret_bool HV.out.symm,bstep mle (balloc mle HB2.out _) hb1⟩
    ·have HS2:=mh (HS.out rfl)
     go_wp2_with (first|(go_at_call 161;(with_reducible refine cmo HK.out ?_);rintro e w1 ⟨rfl,hb1⟩))
     go_roundw
     case rel=>exact⟨j+1,by omega,by go_num,HS2.out,bstep mle (balloc mle HB2.out _) hb1⟩
     case measure=>simp[intOf];omega
   ·obtain rfl:j=K.length:=by omega
    have HV:=mh (show V=true by rw[SV.out];rw[List.take_length]at hf;exact hf);clear hb hf
    go_wp2
    go_ret
    exact⟨ret_bool HV.out.symm,HB2.out⟩
theorem refcheck16_any {Q:Nat→Prop}(d:Nat)(r:RT)(t:Tm)(w:World)(h:TV Q w d r t)(hz:count t≤1099511627776) :
  Calls Tryz.prog 144 #[.agg #[I O r.op,I O r.num,I O r.more,.slice r.p r.n r.c]] w (IntG (chkT t) w):=by
 have B0:=Bx.box w r 109;have CT:=mh (count16r_any d r t _ (h.below B0.below) hz);have DP:=mh (fun (W:World) (hW:Bx w W r)=>depth16_any d r t W (h.below hW.below) hz);have FM:=mh (fun (W:World) (hW:Bx w W r)=>form_any d r t W (h.below hW.below));have HX:=mh B0;have hdc:=depth_le_count t;have BN:=mh (fun (W W' : World) (hW:Bx w W r) (hb:Below W.heap.size W W')=>show Bx w W' r from⟨bstep mle hW.below hb,⟨(hb.cell (p:=⟨w.heap.size,0,none⟩) hW.lt).trans hW.cells.c0,(hb.cell (p:=⟨w.heap.size,0+1,none⟩) hW.lt).trans hW.cells.c1,(hb.cell (p:=⟨w.heap.size,0+2,none⟩) hW.lt).trans hW.cells.c2,(hb.cell (p:=⟨w.heap.size,0+3,none⟩) hW.lt).trans hW.cells.c3⟩,nll hW.lt hb.size⟩);have CR:=mh (show chkT t=if 40<count t then 1 else if 8<depth t∨form t=false then 16 else 0 from rfl);obtain⟨V,eV⟩:∃x,chkT t=x:=⟨_,rfl⟩;rw[eV]at CR ⊢;obtain⟨D,eD⟩:∃x,depth t=x:=⟨_,rfl⟩;rw[eD]at CR DP hdc;obtain⟨B,eB⟩:∃x,form t=x:=⟨_,rfl⟩;rw[eB]at CR FM;clear h B0 eV eD eB
 by_cases h1:40<count t
 ·have HV:=mh (show V=1 by rw[CR.out,if_pos h1])
  clear CR
  go_enter Tryz.func144,Tryz.ntmps144
  go_wp2_with (first|((go_at_call 159;(with_reducible refine cmo CT.out ?_);rintro e w1 ⟨N,hN,rfl,hb1⟩;have n1:=hN.1;have n2:=hN.2.1;have HX1:=mh (BN.out _ _ HX.out hb1);have DP1:=mh (DP.out _ HX1.out);obtain⟨k0,k1,k2,k3⟩:=HX1.out.cells;rw[Nat.zero_add]at k1 k2 k3;clear hN hb1);have n3:¬N≤40:=(by have:=n2 h1;omega);have n4:40<N:=(by omega);clear n1 n2))
  go_ret
  exact⟨ret_int HV.out.symm,HX1.out.below⟩
 by_cases h2:8<D
 ·have HV:=mh (show V=16 by rw[CR.out,if_neg h1,if_pos (.inl h2)])
  clear CR
  go_enter Tryz.func144,Tryz.ntmps144
  go_wp2_with (first|((go_at_call 159;(with_reducible refine cmo CT.out ?_);rintro e w1 ⟨N,hN,rfl,hb1⟩;have n1:=hN.1;have n2:=hN.2.1;have HX1:=mh (BN.out _ _ HX.out hb1);have DP1:=mh (DP.out _ HX1.out);obtain⟨k0,k1,k2,k3⟩:=HX1.out.cells;rw[Nat.zero_add]at k1 k2 k3;clear hN hb1);have n3:N≤40:=(by have:=n1 (by omega);omega);clear n1 n2)|(go_at_call 160;(with_reducible refine cmo DP1.out ?_);rintro e w2 ⟨rfl,hb2⟩;have HX2:=mh (BN.out _ _ HX1.out hb2);have FM2:=mh (FM.out _ HX2.out);obtain⟨j0,j1,j2,j3⟩:=HX2.out.cells;rw[Nat.zero_add]at j1 j2 j3;clear hb2))
  go_ret
  exact⟨ret_int HV.out.symm,HX2.out.below⟩
 cases B
 ·have HV:=mh (show V=16 by rw[CR.out,if_neg h1,if_pos (.inr rfl)])
  clear CR
  go_enter Tryz.func144,Tryz.ntmps144
  go_wp2_with (first|((go_at_call 159;(with_reducible refine cmo CT.out ?_);rintro e w1 ⟨N,hN,rfl,hb1⟩;have n1:=hN.1;have n2:=hN.2.1;have HX1:=mh (BN.out _ _ HX.out hb1);have DP1:=mh (DP.out _ HX1.out);obtain⟨k0,k1,k2,k3⟩:=HX1.out.cells;rw[Nat.zero_add]at k1 k2 k3;clear hN hb1);have n3:N≤40:=(by have:=n1 (by omega);omega);clear n1 n2)|(go_at_call 160;(with_reducible refine cmo DP1.out ?_);rintro e w2 ⟨rfl,hb2⟩;have HX2:=mh (BN.out _ _ HX1.out hb2);have FM2:=mh (FM.out _ HX2.out);obtain⟨j0,j1,j2,j3⟩:=HX2.out.cells;rw[Nat.zero_add]at j1 j2 j3;clear hb2)|(go_at_call 161;(with_reducible refine cmo FM2.out ?_);rintro e w3 ⟨rfl,hb3⟩;have HX3:=mh (BN.out _ _ HX2.out hb3)))
  go_ret
  exact⟨ret_int HV.out.symm,HX3.out.below⟩
 ·have HV:=mh (show V=0 by rw[CR.out,if_neg h1,if_neg (by rintro (h|h);exact h2 h;cases h)])
  clear CR
  go_enter Tryz.func144,Tryz.ntmps144
  go_wp2_with (first|((go_at_call 159;(with_reducible refine cmo CT.out ?_);rintro e w1 ⟨N,hN,rfl,hb1⟩;have n1:=hN.1;have n2:=hN.2.1;have HX1:=mh (BN.out _ _ HX.out hb1);have DP1:=mh (DP.out _ HX1.out);obtain⟨k0,k1,k2,k3⟩:=HX1.out.cells;rw[Nat.zero_add]at k1 k2 k3;clear hN hb1);have n3:N≤40:=(by have:=n1 (by omega);omega);clear n1 n2)|(go_at_call 160;(with_reducible refine cmo DP1.out ?_);rintro e w2 ⟨rfl,hb2⟩;have HX2:=mh (BN.out _ _ HX1.out hb2);have FM2:=mh (FM.out _ HX2.out);obtain⟨j0,j1,j2,j3⟩:=HX2.out.cells;rw[Nat.zero_add]at j1 j2 j3;clear hb2)|(go_at_call 161;(with_reducible refine cmo FM2.out ?_);rintro e w3 ⟨rfl,hb3⟩;have HX3:=mh (BN.out _ _ HX2.out hb3)))
  go_ret
  exact⟨ret_int HV.out.symm,HX3.out.below⟩
open Sc
theorem refone_any {Q:Nat→Prop}(d:Nat)(r:RSx)(s:Sch)(w:World)(h:SV Q w d r s)(hz:r.nm.size≤9223372036854775807)(hc:count s.cond≤1099511627776) :
  Calls Tryz.prog 121 #[.agg #[I O r.num,.string r.nm,I O r.t.op,I O r.t.num,I O r.t.more,.slice r.t.p r.t.n r.t.c,.slice r.bp r.bn r.bc,I O r.least,I O r.ex,.bool r.needs]] w (IntG (one17 s) w):=by
 have hA:Below w.heap.size w (w.alloc (.cells #[I O r.num,.string r.nm,I O r.t.op,I O r.t.num,I O r.t.more,.slice r.t.p r.t.n r.t.c,.slice r.bp r.bn r.bc,I O r.least,I O r.ex,.bool r.needs] 112)):=(brf _ _).alloc mle _;have NM:=mh (show ∀W,Calls Tryz.prog 143 #[.string r.nm] W (fun e w' => e = .returned (.bool (Wo.nameB s.nm.data.toList))∧W=w') from fun W=>h.nm▸refname_any r.nm W hz);have CK:=mh (refcheck16_any d r.t s.cond _ (h.below hA).t hc);have BK:=mh (fun (W:World) (hW:Below w.heap.size w W)=>show Calls Tryz.prog 145 #[.slice r.bp r.bn r.bc] W (BoolG (brB s.br) W) from refbrackets_any r.bp s.br r.bn r.bc W h.bn (h.below hW).br);obtain⟨v,ev⟩:∃v,one17 s=v:=⟨_,rfl⟩;have OC:=one_cases (show oneV r.num r.least r.ex (Wo.nameB s.nm.data.toList) (chkT s.cond) (brB s.br) (bitB r.ex r.num)=v from by rw[← ev,h.num,h.least,h.ex];rfl);rw[ev];obtain⟨nb,enb⟩:∃x,Wo.nameB s.nm.data.toList=x:=⟨_,rfl⟩;obtain⟨ck,eck⟩:∃x,chkT s.cond=x:=⟨_,rfl⟩;obtain⟨bb,ebb⟩:∃x,brB s.br=x:=⟨_,rfl⟩;rw[enb]at NM OC;rw[eck]at CK OC;rw[ebb]at BK OC;clear enb eck ebb h ev hz hc;obtain⟨num,nm,⟨o,tn,tm,tp,tl,tc⟩,bp,bn,bc,least,ex,needs⟩:=r;have HA:=mh hA;clear hA;have HA0:=mh (show w.heap.size<(w.alloc (.cells #[I O num,.string nm,I O o,I O tn,I O tm,.slice tp tl tc,.slice bp bn bc,I O least,I O ex,.bool needs] 112)).heap.size by simp);obtain⟨bit,ebit⟩:∃x,bitB ex num=x:=⟨_,rfl⟩;have EB:(bits BinOp.and IntKind.i64 (ex / 2 ^ num.toNat) 1==1)=bit:=by rw[bit_one,ebit]
 simp only[ebit]at OC;clear ebit;obtain⟨O1,O2,O3,O4,O5⟩:=OC
 replace O1:=mh O1
 replace O2:=mh O2
 replace O3:=mh O3
 replace O4:=mh O4
 replace O5:=mh O5
 by_cases g:num<0∨15<num∨least<0∨268435456<least
 ·have HV:=mh (O1.out g)
  have G:=mh g;clear g
  by_cases g1:num<0
  ·go_enter Tryz.func121,Tryz.ntmps121
   go_wp2_with (fail)
   go_ret
   exact⟨ret_int HV.out.symm,HA.out⟩
  by_cases g2:15<num
  ·go_enter Tryz.func121,Tryz.ntmps121
   go_wp2_with (fail)
   go_ret
   exact⟨ret_int HV.out.symm,HA.out⟩
  by_cases g3:least<0
  ·go_enter Tryz.func121,Tryz.ntmps121
   go_wp2_with (fail)
   go_ret
   exact⟨ret_int HV.out.symm,HA.out⟩
  have g4:268435456<least:=by have:=G.out;omega
  ·go_enter Tryz.func121,Tryz.ntmps121
   go_wp2_with (fail)
   go_ret
   exact⟨ret_int HV.out.symm,HA.out⟩
 ·have hn0:0≤num:=by omega
  have hn1:num≤15:=by omega
  have hl0:0≤least:=by omega
  have hl1:least≤268435456:=by omega
  have G:=mh g;clear g
  cases nb
  ·have HV:=mh (O2.out G.out rfl)
   go_enter Tryz.func121,Tryz.ntmps121
   go_wp2_with (first|(go_at_call 143;(with_reducible refine cmo (NM.out _) ?_);rintro e w1 ⟨rfl,rfl⟩)|(go_at_call 144;(with_reducible refine cmo CK.out ?_);rintro e w2 ⟨rfl,hb2⟩;have HS2:=mh (show w.heap.size<w2.heap.size from nll HA0.out hb2.size);have BK1:=mh (BK.out _ (bstep mle HA.out hb2));have HB2:=mh (bstep mle HA.out hb2);have hk0:=mcell hb2 0;have hk1:=mcell hb2 1;have hk2:=mcell hb2 2;have hk3:=mcell hb2 3;have hk4:=mcell hb2 4;have hk5:=mcell hb2 5;have hk6:=mcell hb2 6;have hk7:=mcell hb2 7;have hk8:=mcell hb2 8;have hk9:=mcell hb2 9;clear hb2)|(go_at_call 145;(with_reducible refine cmo BK1.out ?_);rintro e w3 ⟨rfl,hb3⟩;have hj0:=(hb3.cell (p:=⟨w.heap.size,0,none⟩) (by have:=HS2.out;omega)).trans hk0;have hj8:=(hb3.cell (p:=⟨w.heap.size,8,none⟩) (by have:=HS2.out;omega)).trans hk8;have HB3:=mh (bstep mle HB2.out hb3);clear hb3))
   go_ret
   exact⟨ret_int HV.out.symm,HA.out⟩
  by_cases c0:ck=0
  ·have CZ:(ck==0)=true:=by rw[c0];rfl
   subst c0
   cases bb
   ·have HV:=mh (O4.out G.out rfl rfl (.inl rfl))
    go_enter Tryz.func121,Tryz.ntmps121
    go_wp2_with (first|(go_at_call 143;(with_reducible refine cmo (NM.out _) ?_);rintro e w1 ⟨rfl,rfl⟩)|(go_at_call 144;(with_reducible refine cmo CK.out ?_);rintro e w2 ⟨rfl,hb2⟩;have HS2:=mh (show w.heap.size<w2.heap.size from nll HA0.out hb2.size);have BK1:=mh (BK.out _ (bstep mle HA.out hb2));have HB2:=mh (bstep mle HA.out hb2);have hk0:=mcell hb2 0;have hk1:=mcell hb2 1;have hk2:=mcell hb2 2;have hk3:=mcell hb2 3;have hk4:=mcell hb2 4;have hk5:=mcell hb2 5;have hk6:=mcell hb2 6;have hk7:=mcell hb2 7;have hk8:=mcell hb2 8;have hk9:=mcell hb2 9;clear hb2)|(go_at_call 145;(with_reducible refine cmo BK1.out ?_);rintro e w3 ⟨rfl,hb3⟩;have hj0:=(hb3.cell (p:=⟨w.heap.size,0,none⟩) (by have:=HS2.out;omega)).trans hk0;have hj8:=(hb3.cell (p:=⟨w.heap.size,8,none⟩) (by have:=HS2.out;omega)).trans hk8;have HB3:=mh (bstep mle HB2.out hb3);clear hb3))
    go_ret
    exact⟨ret_int HV.out.symm,HB3.out⟩
   by_cases e1:ex<0
   ·have HV:=mh (O4.out G.out rfl rfl (.inr (.inl e1)))
    go_enter Tryz.func121,Tryz.ntmps121
    go_wp2_with (first|(go_at_call 143;(with_reducible refine cmo (NM.out _) ?_);rintro e w1 ⟨rfl,rfl⟩)|(go_at_call 144;(with_reducible refine cmo CK.out ?_);rintro e w2 ⟨rfl,hb2⟩;have HS2:=mh (show w.heap.size<w2.heap.size from nll HA0.out hb2.size);have BK1:=mh (BK.out _ (bstep mle HA.out hb2));have HB2:=mh (bstep mle HA.out hb2);have hk0:=mcell hb2 0;have hk1:=mcell hb2 1;have hk2:=mcell hb2 2;have hk3:=mcell hb2 3;have hk4:=mcell hb2 4;have hk5:=mcell hb2 5;have hk6:=mcell hb2 6;have hk7:=mcell hb2 7;have hk8:=mcell hb2 8;have hk9:=mcell hb2 9;clear hb2)|(go_at_call 145;(with_reducible refine cmo BK1.out ?_);rintro e w3 ⟨rfl,hb3⟩;have hj0:=(hb3.cell (p:=⟨w.heap.size,0,none⟩) (by have:=HS2.out;omega)).trans hk0;have hj8:=(hb3.cell (p:=⟨w.heap.size,8,none⟩) (by have:=HS2.out;omega)).trans hk8;have HB3:=mh (bstep mle HB2.out hb3);clear hb3))
    go_ret
    exact⟨ret_int HV.out.symm,HB3.out⟩
   by_cases e2:65536≤ex
   ·have HV:=mh (O4.out G.out rfl rfl (.inr (.inr (.inl e2))))
    go_enter Tryz.func121,Tryz.ntmps121
    go_wp2_with (first|(go_at_call 143;(with_reducible refine cmo (NM.out _) ?_);rintro e w1 ⟨rfl,rfl⟩)|(go_at_call 144;(with_reducible refine cmo CK.out ?_);rintro e w2 ⟨rfl,hb2⟩;have HS2:=mh (show w.heap.size<w2.heap.size from nll HA0.out hb2.size);have BK1:=mh (BK.out _ (bstep mle HA.out hb2));have HB2:=mh (bstep mle HA.out hb2);have hk0:=mcell hb2 0;have hk1:=mcell hb2 1;have hk2:=mcell hb2 2;have hk3:=mcell hb2 3;have hk4:=mcell hb2 4;have hk5:=mcell hb2 5;have hk6:=mcell hb2 6;have hk7:=mcell hb2 7;have hk8:=mcell hb2 8;have hk9:=mcell hb2 9;clear hb2)|(go_at_call 145;(with_reducible refine cmo BK1.out ?_);rintro e w3 ⟨rfl,hb3⟩;have hj0:=(hb3.cell (p:=⟨w.heap.size,0,none⟩) (by have:=HS2.out;omega)).trans hk0;have hj8:=(hb3.cell (p:=⟨w.heap.size,8,none⟩) (by have:=HS2.out;omega)).trans hk8;have HB3:=mh (bstep mle HB2.out hb3);clear hb3))
    go_ret
    exact⟨ret_int HV.out.symm,HB3.out⟩
   cases bit
   ·have HV:=mh (O5.out G.out rfl rfl (by simp;omega))
    go_enter Tryz.func121,Tryz.ntmps121
    go_wp2_with (first|(go_at_call 143;(with_reducible refine cmo (NM.out _) ?_);rintro e w1 ⟨rfl,rfl⟩)|(go_at_call 144;(with_reducible refine cmo CK.out ?_);rintro e w2 ⟨rfl,hb2⟩;have HS2:=mh (show w.heap.size<w2.heap.size from nll HA0.out hb2.size);have BK1:=mh (BK.out _ (bstep mle HA.out hb2));have HB2:=mh (bstep mle HA.out hb2);have hk0:=mcell hb2 0;have hk1:=mcell hb2 1;have hk2:=mcell hb2 2;have hk3:=mcell hb2 3;have hk4:=mcell hb2 4;have hk5:=mcell hb2 5;have hk6:=mcell hb2 6;have hk7:=mcell hb2 7;have hk8:=mcell hb2 8;have hk9:=mcell hb2 9;clear hb2)|(go_at_call 145;(with_reducible refine cmo BK1.out ?_);rintro e w3 ⟨rfl,hb3⟩;have hj0:=(hb3.cell (p:=⟨w.heap.size,0,none⟩) (by have:=HS2.out;omega)).trans hk0;have hj8:=(hb3.cell (p:=⟨w.heap.size,8,none⟩) (by have:=HS2.out;omega)).trans hk8;have HB3:=mh (bstep mle HB2.out hb3);clear hb3))
    go_ret
    exact⟨ret_int HV.out.symm,HB3.out⟩
   ·have HV:=mh (O4.out G.out rfl rfl (.inr (.inr (.inr rfl))))
    go_enter Tryz.func121,Tryz.ntmps121
    go_wp2_with (first|(go_at_call 143;(with_reducible refine cmo (NM.out _) ?_);rintro e w1 ⟨rfl,rfl⟩)|(go_at_call 144;(with_reducible refine cmo CK.out ?_);rintro e w2 ⟨rfl,hb2⟩;have HS2:=mh (show w.heap.size<w2.heap.size from nll HA0.out hb2.size);have BK1:=mh (BK.out _ (bstep mle HA.out hb2));have HB2:=mh (bstep mle HA.out hb2);have hk0:=mcell hb2 0;have hk1:=mcell hb2 1;have hk2:=mcell hb2 2;have hk3:=mcell hb2 3;have hk4:=mcell hb2 4;have hk5:=mcell hb2 5;have hk6:=mcell hb2 6;have hk7:=mcell hb2 7;have hk8:=mcell hb2 8;have hk9:=mcell hb2 9;clear hb2)|(go_at_call 145;(with_reducible refine cmo BK1.out ?_);rintro e w3 ⟨rfl,hb3⟩;have hj0:=(hb3.cell (p:=⟨w.heap.size,0,none⟩) (by have:=HS2.out;omega)).trans hk0;have hj8:=(hb3.cell (p:=⟨w.heap.size,8,none⟩) (by have:=HS2.out;omega)).trans hk8;have HB3:=mh (bstep mle HB2.out hb3);clear hb3))
    go_ret
    exact⟨ret_int HV.out.symm,HB3.out⟩
  ·have HV:=mh (O3.out G.out rfl c0)
   go_enter Tryz.func121,Tryz.ntmps121
   go_wp2_with (first|(go_at_call 143;(with_reducible refine cmo (NM.out _) ?_);rintro e w1 ⟨rfl,rfl⟩)|(go_at_call 144;(with_reducible refine cmo CK.out ?_);rintro e w2 ⟨rfl,hb2⟩;have HS2:=mh (show w.heap.size<w2.heap.size from nll HA0.out hb2.size);have BK1:=mh (BK.out _ (bstep mle HA.out hb2));have HB2:=mh (bstep mle HA.out hb2);have hk0:=mcell hb2 0;have hk1:=mcell hb2 1;have hk2:=mcell hb2 2;have hk3:=mcell hb2 3;have hk4:=mcell hb2 4;have hk5:=mcell hb2 5;have hk6:=mcell hb2 6;have hk7:=mcell hb2 7;have hk8:=mcell hb2 8;have hk9:=mcell hb2 9;clear hb2)|(go_at_call 145;(with_reducible refine cmo BK1.out ?_);rintro e w3 ⟨rfl,hb3⟩;have hj0:=(hb3.cell (p:=⟨w.heap.size,0,none⟩) (by have:=HS2.out;omega)).trans hk0;have hj8:=(hb3.cell (p:=⟨w.heap.size,8,none⟩) (by have:=HS2.out;omega)).trans hk8;have HB3:=mh (bstep mle HB2.out hb3);clear hb3))
   go_ret
   exact⟨ret_int HV.out.symm,HB2.out⟩
theorem one_br {s:Sch}(h:one17 s=0):brB s.br=true:=by
 unfold one17 at h
 split at h
 ·cases h
 split at h
 ·cases h
 split at h
 ·rename_i h1;exact absurd h h1
 split at h
 ·cases h
 ·rename_i h1
  cases e:brB s.br
  ·exact absurd (.inl e) h1
  ·rfl
theorem amt_succ {l:List Brk}{sq:Int}{k:Nat}(hk:k<l.length):amt l sq (k+1)=amt l sq k+max 0 (min sq l[k].up - upB l k)*l[k].rate:=by
 show amt l sq k+(match l[k]? with|some b=>max 0 (min sq b.up - upB l k)*b.rate|none=>0)=_
 rw[List.getElem?_eq_getElem hk]
theorem br_right {l:List Brk}{k:Nat}(hk:k<l.length)(h:brAll l (k+1)=true):upB l k<l[k].up∧l[k].up≤268435456∧0≤l[k].rate∧l[k].rate≤1048576∧0≤upB l k:=by
 have h2:=h;rw[brAll_succ,Bool.and_eq_true]at h2;have h3:=h2.2;rw[brAt_some hk,Bool.and_eq_true,Bool.and_eq_true,Bool.and_eq_true,decide_eq_true_eq,decide_eq_true_eq,decide_eq_true_eq,decide_eq_true_eq]at h3;exact⟨h3.1,h3.2.1,h3.2.2.1,h3.2.2.2,upB_nonneg (by omega) h2.1⟩
theorem part_le {a b r:Int}(h0:0≤a)(h1:a≤b)(h2:0≤r)(h3:r≤1048576):0≤a*r∧a*r≤1048576*b:=by
 refine⟨Int.mul_nonneg h0 h2,?_⟩
 have e1:a*r≤a*1048576:=Int.mul_le_mul_of_nonneg_left h3 h0;omega
theorem amt_le {l:List Brk}{sq:Int}{k:Nat}(hk:k≤l.length)(h:brAll l k=true):0≤amt l sq k∧amt l sq k≤1048576*upB l k:=by
 induction k with
 | zero=>exact⟨Int.le_refl _,by unfold upB;simp[amt]⟩
 | succ k ih =>
   have hk' : k<l.length:=by omega
   have h1:=ih (by omega) (brAll_mono (Nat.le_succ k) h);obtain⟨b1,b2,b3,b4,b5⟩:=br_right hk' h;rw[amt_succ hk', upB_succ hk'];have h2:=part_le (a:=max 0 (min sq l[k].up - upB l k)) (b:=l[k].up - upB l k) (by omega) (by omega) b3 b4;omega
theorem upB_le {l:List Brk}{k:Nat}(hk:k≤l.length)(h:brAll l k=true):upB l k≤268435456:=by
 cases k with
 | zero=>unfold upB;simp
 | succ k=>rw[upB_succ (by omega)];exact(br_right (by omega) h).2.1
theorem amtE_zero {s:Sch}{sq:Int}(h:one17 s=0)(h0:0≤sq)(h1:sq≤268435456):amtE s sq=0:=by
 unfold amtE;rw[if_neg (by omega),if_neg (by omega)]
theorem amtV_zero {s:Sch}{sq:Int}(h:amtE s sq≠0):amtV s sq=0:=by unfold amtV;rw[if_pos h]
theorem amtV_ok {s:Sch}{sq:Int}(h:amtE s sq=0):amtV s sq=amt s.br sq s.br.length / 100:=by unfold amtV;rw[if_neg (by omega)]
theorem refamount17_any {Q:Nat→Prop}(d:Nat)(r:RSx)(s:Sch)(sq:Int)(w:World)(h:SV Q w d r s)(hz:r.nm.size≤9223372036854775807)(hc:count s.cond≤1099511627776) :
  Calls Tryz.prog 107 #[.agg #[I O r.num,.string r.nm,I O r.t.op,I O r.t.num,I O r.t.more,.slice r.t.p r.t.n r.t.c,.slice r.bp r.bn r.bc,I O r.least,I O r.ex,.bool r.needs],I O sq] w (ChkG (amtV s sq,amtE s sq) w):=by
 have CV:=mh (refone_any d r s _ (h.below (balloc mle (brf _ _) (.cells (sCells r).toArray 112))) hz hc);have HR:=mh h.br;have HN:=h.bn;clear h hz hc;obtain⟨num,nm,⟨o,tn,tm,tp,tl,tc⟩,bp,bn,bc,least,ex,needs⟩:=r;simp only[sCells]at CV;simp only at HR HN;have HA:=mh (balloc mle (brf w.heap.size w) (.cells #[I O num,.string nm,I O o,I O tn,I O tm,.slice tp tl tc,.slice bp bn bc,I O least,I O ex,.bool needs] 112));subst HN;obtain⟨v,ev⟩:∃v,one17 s=v:=⟨_,rfl⟩;rw[ev]at CV;obtain⟨cv,ecv⟩:∃v,(amtV s sq,amtE s sq)=v:=⟨_,rfl⟩;rw[ecv];have ECV:=mh ecv;have EV:=mh ev;clear ecv ev
 by_cases hv0:v=0
 rotate_left
 ·have HV:=mh (show cv=(0,17) from by
   have e:amtE s sq=17:=by unfold amtE;rw[if_pos (by rw[EV.out];exact hv0)]
   rw[← ECV.out,e,amtV_zero (by rw[e];decide)])
  have hne:(v != 0)=true:=by simpa using hv0
  clear hv0
  go_enter Tryz.func107,Tryz.ntmps107
  go_wp2_with (first|(go_at_call 121;(with_reducible refine cmo CV.out ?_);rintro e w1 ⟨rfl,hb1⟩;have HB1:=mh (bstep mle HA.out hb1);have k1:=mcell hb1 6;clear hb1))
  go_ret2
  exact⟨by rw[HV.out];rfl,HB1.out⟩
 subst hv0
 by_cases hs:sq<0∨268435456<sq
 ·have HV:=mh (show cv=(0,2) from by
   have e:amtE s sq=2:=by unfold amtE;rw[if_neg (by rw[EV.out];decide),if_pos hs]
   rw[← ECV.out,e,amtV_zero (by rw[e];decide)])
  have HS:=mh hs;clear hs
  by_cases h0:sq<0
  ·go_enter Tryz.func107,Tryz.ntmps107
   go_wp2_with (first|(go_at_call 121;(with_reducible refine cmo CV.out ?_);rintro e w1 ⟨rfl,hb1⟩;have HB1:=mh (bstep mle HA.out hb1);have k1:=mcell hb1 6;clear hb1))
   go_ret2
   exact⟨by rw[HV.out];rfl,HB1.out⟩
  ·have h1:268435456<sq:=by have:=HS.out;omega
   go_enter Tryz.func107,Tryz.ntmps107
   go_wp2_with (first|(go_at_call 121;(with_reducible refine cmo CV.out ?_);rintro e w1 ⟨rfl,hb1⟩;have HB1:=mh (bstep mle HA.out hb1);have k1:=mcell hb1 6;clear hb1))
   go_ret2
   exact⟨by rw[HV.out];rfl,HB1.out⟩
 have hs0:0≤sq:=by omega
 have hs1:sq≤268435456:=by omega
 have HV:=mh (show cv=(amt s.br sq s.br.length / 100,0) from by rw[← ECV.out,amtE_zero EV.out hs0 hs1,amtV_ok (amtE_zero EV.out hs0 hs1)]);have HBR:=mh (one_br EV.out);have BA:=mh (show brAll s.br s.br.length=true from by have:=HBR.out;unfold brB at this;rw[Bool.and_eq_true]at this;exact this.1);clear hs;obtain⟨l,el⟩:∃l,s.br=l:=⟨_,rfl⟩;rw[el]at HR HV BA CV HA ⊢;have hlen:=HR.out.len;clear el HBR
 go_enter Tryz.func107,Tryz.ntmps107
 go_wp2_with (first|(go_at_call 121;(with_reducible refine cmo CV.out ?_);rintro e w1 ⟨rfl,hb1⟩;have HB1:=mh (bstep mle HA.out hb1);have k1:=mcell hb1 6;clear hb1))
 go_loopw [6,7,22] (fun a b i wr=>∃k:Nat,k≤l.length∧i=I O k∧a=I O (amt l sq k)∧b=I O (upB l k)∧Below w.heap.size w wr) (fun _ _ i _=>l.length - (intOf i).toNat)
 case atStart=>exact⟨0,Nat.zero_le _,rfl,rfl,by unfold upB;simp,HB1.out⟩
 case round =>
  obtain⟨wo,rfl⟩:∃wo:World,wo=wr:=⟨_,rfl⟩;obtain⟨k,hk,rfl,rfl,rfl,hb⟩:=hrel;have HB:=mh hb;have hk0:(0:Int)≤(k:Int):=inn _;have AL:=amt_le (sq:=sq) hk (brAll_mono hk BA.out);have UL:=upB_le hk (brAll_mono hk BA.out)
  by_cases hlt:k<l.length
  ·have hk1:(k:Int)<(l.length:Int):=by omega
   obtain⟨b,off,x,rfl,hbl,x0,x1,hx⟩:=SBk_at (HR.out.below hb) hlt;have BR:=br_right hlt (brAll_mono (by omega) BA.out);have AS:=amt_succ (sq:=sq) hlt;have US:=upB_succ hlt;rw[hx.out]at BR AS US;obtain⟨up,rate⟩:=x;simp only at x0 x1 BR AS US;obtain⟨b1,b2,b3,b4,b5⟩:=BR;obtain⟨last,elast⟩:∃x,upB l k=x:=⟨_,rfl⟩;obtain⟨sum,esum⟩:∃x,amt l sq k=x:=⟨_,rfl⟩;rw[elast]at b1 b5 AL AS UL ⊢;rw[esum]at AL AS ⊢;obtain⟨l0,l1⟩:=AL;have pl:=part_le (a:=max 0 (min sq up - last)) (b:=up - last) (by omega) (by omega) b3 b4;obtain⟨X,eX⟩:∃X,max 0 (min sq up - last)*rate=X:=⟨_,rfl⟩;rw[eX]at pl AS;have AS0:=mh AS;clear AS;have US0:=mh US;clear US;have hwX:IntKind.i64.wrap (max 0 (min sq up - last)*rate)=X:=by rw[eX,IntKind.wrap_i64];omega
   have hwd:IntKind.i64.wrap (min sq up - last)=min sq up - last:=by rw[IntKind.wrap_i64];omega
   have pl0:=pl.1;have pl1:X≤1125899906842624:=by omega
   have l1' : sum≤1125899906842624:=by omega
   have HBJ:=mh (balloc mle hb (.cells #[I O up,I O rate] 143));clear hb hx elast esum eX pl l1 b1 b2 b3 b4 b5 UL
   go_wp2
   go_roundw
   case rel=>exact⟨k+1,by omega,by go_num,by rw[AS0.out],by rw[US0.out],HBJ.out⟩
   case measure=>simp[intOf];omega
  ·obtain rfl:k=l.length:=by omega
   have h0:0≤amt l sq l.length:=AL.1;have h1:amt l sq l.length≤1125899906842624:=by omega
   have DN:=mh (refdown100_any (amt l sq l.length) h0 h1 wo);clear hb AL UL h0 h1
   go_wp2_with (first|(go_at_call 129;(with_reducible refine cmo DN.out ?_);rintro e w1 ⟨rfl,rfl⟩))
   go_ret2
   exact⟨by rw[HV.out];rfl,HB.out⟩
open As
section
variable {w wr w' : World} {t xb sb:Nat} {r:RY} {f:RF} {va vr:Value} {y:RSx} {ox:Array Value}
end
theorem area_true {n:Int}(h0:0≤n)(h1:n≤268435456):Re.area n=true:=by unfold Re.area;simp[h0,h1]
end Go.Proofs.YtljibgchickcpaaGreatDoor
namespace Go.Proofs.YtljibgchickcpaaGreatDoor
open Go.RowKit Te Sc
theorem Appends.apart {w w' : World}{B G:Nat}{v v' : Value}(h:Appends w w' B G v v'){b:Nat}(hG:w.heap.size≤G)(hb:b<w.heap.size)(hn:v.ownBlock≠some b):v'.ownBlock≠some b:=fun e2=>by
 rcases h.block with e3|e3
 ·rw[e3]at e2;exact hn e2
 ·rw[e3]at e2;injection e2 with e2;omega
def Qx (B:Nat) (v:Value) (lb:Option Nat) (b:Nat):Prop:=B≤b∧v.ownBlock≠some b∧lb≠some b
theorem setCell_far (w:World){g b:Nat}(h:b≠g)(i:Nat)(u:Value):(w.setCell ⟨g,i,none⟩ u).heap[b]?=w.heap[b]?:=by
 simp[World.setCell,Array.getElem?_modify,Ne.symm h]
theorem setCell_sz (w:World)(a:Addr)(u:Value):(w.setCell a u).heap.size=w.heap.size:=by simp[World.setCell]
end Go.Proofs.YtljibgchickcpaaGreatDoor
