/- Packed. -/
import Derived.Test.YtefcalgjnkigjaaGreatK17
set_option maxRecDepth 100000
set_option maxHeartbeats 8000000
open Go.Value renaming int → I
open Go.IntKind renaming i64 → O
namespace Go.Proofs.YtefcalgjnkigjaaGreat
open Go.RowKit
theorem refrcheck_any (p:Option Addr)(D:List (Int × Int))(cap:Nat)(w:World)(h:Pairs w p D) :
  Calls Tryz.prog 53 #[.slice p D.length cap] w fun e w' => e = .returned (I O (Re.chk D))∧∃n,w' = w.drewN n:=by
 have hn:=h.len
 by_cases h6:6<D.length∨D.length<1
 ·have hc:Re.chk D=66:=Re.chk_not fun hR=>by have:=hR.len;have:=hR.len1;omega
  rw[hc];clear h hc
  rcases h6 with h6|h6
  ·go_enter Tryz.func53,Tryz.ntmps53
   go_wp2
   go_ret
   exact⟨rfl,0,rfl⟩
  ·have hz:¬(6:Int)<(D.length:Int):=by omega
   go_enter Tryz.func53,Tryz.ntmps53
   go_wp2
   go_ret
   exact⟨rfl,0,rfl⟩
 ·have h1:1≤D.length:=by omega
  have h66:D.length≤6:=by omega
  have H:=mh h;clear h h6;have hwl:IntKind.i64.wrap ((D.length:Int) - 1)=(D.length:Int) - 1:=by rw[IntKind.wrap_i64];omega
  go_enter Tryz.func53,Tryz.ntmps53
  go_wp2
  go_loopw [3] (fun i wr=>∃k n:Nat,k≤D.length∧i=I O k∧(∀j,j<k→Re.okAt D j=true)∧wr=w.drewN n) (fun i _=>D.length - (intOf i).toNat)
  case atStart=>exact⟨0,0,Nat.zero_le _,rfl,fun j hj=>absurd hj (Nat.not_lt_zero j),rfl⟩
  case round =>
   obtain⟨k,n,hk,rfl,hok,hb⟩:=hrel;have HOK:=mh hok;have HW:=mh hb;have hcells:∀a,wr.cell? a=w.cell? a:=fun a=>by rw[hb];rfl
   have HCE:=mh hcells;clear hb hcells
   by_cases hlt:k<D.length
   ·obtain⟨b,off,x,y,rfl,hbl,hx0,hy0,hxy⟩:=H.out.get hlt
    have hx1:=(HCE.out _).trans hx0;have hy1:=(HCE.out _).trans hy0;have hk0:(0:Int)≤(k:Int):=inn _;have hk1:(k:Int)<(D.length:Int):=by omega
    have next:Re.okAt D k=true→∀j,j<k+1→Re.okAt D j=true:=fun h j hj=>by
     by_cases e:j=k
     ·rw[e];exact h
     ·exact HOK.out j (by omega)
    have NEXT:=mh next;clear hok hx0 hy0 next
    rcases Nat.eq_zero_or_pos k with rfl|hpos
    ·simp only[Nat.zero_mul,Nat.add_zero]at hx1 hy1
     have ST:=mh (stOk (lx:=0) (ly:=0) hxy.out (fun h=>absurd rfl h))
     rcases (show(x<0)∨(¬(x<0)∧100000<x)∨(¬(x<0)∧¬(100000<x)∧y < -1)∨(¬(x<0)∧¬(100000<x)∧¬(y < -1)∧10<y)∨(¬(x<0)∧¬(100000<x)∧¬(y < -1)∧¬(10<y)∧y = -1∧¬((0:Int)=(D.length:Int) - 1))∨(¬(x<0)∧¬(100000<x)∧¬(y < -1)∧¬(10<y)∧y = -1∧(0:Int)=(D.length:Int) - 1)∨(¬(x<0)∧¬(100000<x)∧¬(y < -1)∧¬(10<y)∧¬(y = -1)) by omega) with h0|⟨h0,h1⟩|⟨h0,h1,h2⟩|⟨h0,h1,h2,h3⟩|⟨h0,h1,h2,h3,h4,h5⟩|⟨h0,h1,h2,h3,h4,h5⟩|⟨h0,h1,h2,h3,h4⟩
     ·have hB:=mh (rchk_bad hlt fun h=>absurd (ST.out.1 h) (by omega))
      have f0:decide (x<0)=true:=dqt h0
      go_wp2
      go_ret
      exact⟨by rw[hB.out];rfl,_,by first|exact HW.out|(rw[HW.out];exact drewN_two _ _ _)⟩
     ·have hB:=mh (rchk_bad hlt fun h=>absurd (ST.out.1 h) (by omega))
      have f0:decide (x<0)=false:=dqf h0;have f1:decide (100000<x)=true:=dqt h1
      go_wp2
      go_ret
      exact⟨by rw[hB.out];rfl,_,by first|exact HW.out|(rw[HW.out];exact drewN_two _ _ _)⟩
     ·have hB:=mh (rchk_bad hlt fun h=>absurd (ST.out.1 h) (by omega))
      have f0:decide (x<0)=false:=dqf h0;have f1:decide (100000<x)=false:=dqf h1;have f2:decide (y < -1)=true:=dqt h2
      go_wp2
      go_ret
      exact⟨by rw[hB.out];rfl,_,by first|exact HW.out|(rw[HW.out];exact drewN_two _ _ _)⟩
     ·have hB:=mh (rchk_bad hlt fun h=>absurd (ST.out.1 h) (by omega))
      have f0:decide (x<0)=false:=dqf h0;have f1:decide (100000<x)=false:=dqf h1;have f2:decide (y < -1)=false:=dqf h2;have f3:decide (10<y)=true:=dqt h3
      go_wp2
      go_ret
      exact⟨by rw[hB.out];rfl,_,by first|exact HW.out|(rw[HW.out];exact drewN_two _ _ _)⟩
     ·have hB:=mh (rchk_bad hlt fun h=>absurd (ST.out.1 h) (by omega))
      have f0:decide (x<0)=false:=dqf h0;have f1:decide (100000<x)=false:=dqf h1;have f2:decide (y < -1)=false:=dqf h2;have f3:decide (10<y)=false:=dqf h3;have f4:(y == -1)=true:=beq_iff_eq.2 h4;have g4:(y != -1)=false:=by show(!(y == -1))=_;rw[f4];rfl
      have f5:((0:Int)==(D.length:Int) - 1)=false:=beq_eq_false_iff_ne.2 h5;clear h4 h5
      go_wp2
      go_ret
      exact⟨by rw[hB.out];rfl,_,by first|exact HW.out|(rw[HW.out];exact drewN_two _ _ _)⟩
     ·have hG:=NEXT.out (ST.out.2 (by omega))
      have HG:=mh hG;clear hG;have f0:decide (x<0)=false:=dqf h0;have f1:decide (100000<x)=false:=dqf h1;have f2:decide (y < -1)=false:=dqf h2;have f3:decide (10<y)=false:=dqf h3;have f4:(y == -1)=true:=beq_iff_eq.2 h4;have g4:(y != -1)=false:=by show(!(y == -1))=_;rw[f4];rfl
      have f5:((0:Int)==(D.length:Int) - 1)=true:=beq_iff_eq.2 h5;clear h4 h5
      go_wp2_with fail
      go_quiet (fail)
      go_wp2
      go_roundw
      case rel=>exact⟨0+1,_,by omega,by go_num,HG.out,by first|exact HW.out|(rw[HW.out];exact drewN_two _ _ _)⟩
      case measure=>simp[intOf];omega
     ·have hG:=NEXT.out (ST.out.2 (by omega))
      have HG:=mh hG;clear hG;have f0:decide (x<0)=false:=dqf h0;have f1:decide (100000<x)=false:=dqf h1;have f2:decide (y < -1)=false:=dqf h2;have f3:decide (10<y)=false:=dqf h3;have f4:(y == -1)=false:=beq_eq_false_iff_ne.2 h4;have g4:(y != -1)=true:=by show(!(y == -1))=_;rw[f4];rfl
      clear h4
      go_wp2_with fail
      go_quiet (fail)
      go_wp2
      go_roundw
      case rel=>exact⟨0+1,_,by omega,by go_num,HG.out,by first|exact HW.out|(rw[HW.out];exact drewN_two _ _ _)⟩
      case measure=>simp[intOf];omega
    ·obtain⟨k', rfl⟩:∃k', k=k' + 1:=⟨k - 1,by omega⟩
     obtain⟨b', off', lx,ly,e, -,hlx0,hly0,hlxy⟩:=H.out.get (k:=k') (by omega);simp only[Option.some.injEq,Addr.mk.injEq]at e;obtain⟨rfl,rfl, -⟩:=e;have ST:=mh (stOk (lx:=lx) (ly:=ly) hxy.out (fun _=>hlxy.out));have hw2:IntKind.i64.wrap (k' : Int)=(k' : Int):=by rw[IntKind.wrap_i64];omega
     have hlx1:=(HCE.out _).trans hlx0;have hly1:=(HCE.out _).trans hly0;have hw:IntKind.i64.wrap ((k' : Int)+1 - 1)=(k' : Int):=by rw[IntKind.wrap_i64];omega
     have hq0:(0:Int)≤(k' : Int):=inn _;have hq1:(k' : Int)<(D.length:Int):=by omega
     have hk0' : (0:Int)≤(k' : Int)+1:=by omega
     have hk1' : (k' : Int)+1<(D.length:Int):=by omega
     have hk2' : (0:Int)<(k' : Int)+1:=by omega
     clear hlx0 hly0
     rcases (show(x<0)∨(¬(x<0)∧100000<x)∨(¬(x<0)∧¬(100000<x)∧y < -1)∨(¬(x<0)∧¬(100000<x)∧¬(y < -1)∧10<y)∨(¬(x<0)∧¬(100000<x)∧¬(y < -1)∧¬(10<y)∧y = -1∧¬(((k' : Int)+1)=(D.length:Int) - 1))∨(¬(x<0)∧¬(100000<x)∧¬(y < -1)∧¬(10<y)∧y = -1∧((k' : Int)+1)=(D.length:Int) - 1∧x≤lx)∨(¬(x<0)∧¬(100000<x)∧¬(y < -1)∧¬(10<y)∧¬(y = -1)∧x≤lx)∨(¬(x<0)∧¬(100000<x)∧¬(y < -1)∧¬(10<y)∧y = -1∧((k' : Int)+1)=(D.length:Int) - 1∧¬(x≤lx))∨(¬(x<0)∧¬(100000<x)∧¬(y < -1)∧¬(10<y)∧¬(y = -1)∧¬(x≤lx)∧y<ly)∨(¬(x<0)∧¬(100000<x)∧¬(y < -1)∧¬(10<y)∧¬(y = -1)∧¬(x≤lx)∧¬(y<ly)) by omega) with h0|⟨h0,h1⟩|⟨h0,h1,h2⟩|⟨h0,h1,h2,h3⟩|⟨h0,h1,h2,h3,h4,h5⟩|⟨h0,h1,h2,h3,h4,h5,h6⟩|⟨h0,h1,h2,h3,h4,h5⟩|⟨h0,h1,h2,h3,h4,h5,h6⟩|⟨h0,h1,h2,h3,h4,h5,h6⟩|⟨h0,h1,h2,h3,h4,h5,h6⟩
     ·have hB:=mh (rchk_bad hlt fun h=>absurd (ST.out.1 h) (by omega))
      have f0:decide (x<0)=true:=dqt h0
      go_wp2
      go_ret
      exact⟨by rw[hB.out];rfl,_,by first|exact HW.out|(rw[HW.out];exact drewN_two _ _ _)⟩
     ·have hB:=mh (rchk_bad hlt fun h=>absurd (ST.out.1 h) (by omega))
      have f0:decide (x<0)=false:=dqf h0;have f1:decide (100000<x)=true:=dqt h1
      go_wp2
      go_ret
      exact⟨by rw[hB.out];rfl,_,by first|exact HW.out|(rw[HW.out];exact drewN_two _ _ _)⟩
     ·have hB:=mh (rchk_bad hlt fun h=>absurd (ST.out.1 h) (by omega))
      have f0:decide (x<0)=false:=dqf h0;have f1:decide (100000<x)=false:=dqf h1;have f2:decide (y < -1)=true:=dqt h2
      go_wp2
      go_ret
      exact⟨by rw[hB.out];rfl,_,by first|exact HW.out|(rw[HW.out];exact drewN_two _ _ _)⟩
     ·have hB:=mh (rchk_bad hlt fun h=>absurd (ST.out.1 h) (by omega))
      have f0:decide (x<0)=false:=dqf h0;have f1:decide (100000<x)=false:=dqf h1;have f2:decide (y < -1)=false:=dqf h2;have f3:decide (10<y)=true:=dqt h3
      go_wp2
      go_ret
      exact⟨by rw[hB.out];rfl,_,by first|exact HW.out|(rw[HW.out];exact drewN_two _ _ _)⟩
     ·have hB:=mh (rchk_bad hlt fun h=>absurd (ST.out.1 h) (by omega))
      have f0:decide (x<0)=false:=dqf h0;have f1:decide (100000<x)=false:=dqf h1;have f2:decide (y < -1)=false:=dqf h2;have f3:decide (10<y)=false:=dqf h3;have f4:(y == -1)=true:=beq_iff_eq.2 h4;have g4:(y != -1)=false:=by show(!(y == -1))=_;rw[f4];rfl
      have f5:(((k' : Int)+1)==(D.length:Int) - 1)=false:=beq_eq_false_iff_ne.2 h5;clear h4 h5
      go_wp2
      go_ret
      exact⟨by rw[hB.out];rfl,_,by first|exact HW.out|(rw[HW.out];exact drewN_two _ _ _)⟩
     ·have hB:=mh (rchk_bad hlt fun h=>absurd (ST.out.1 h) (by omega))
      have f0:decide (x<0)=false:=dqf h0;have f1:decide (100000<x)=false:=dqf h1;have f2:decide (y < -1)=false:=dqf h2;have f3:decide (10<y)=false:=dqf h3;have f4:(y == -1)=true:=beq_iff_eq.2 h4;have g4:(y != -1)=false:=by show(!(y == -1))=_;rw[f4];rfl
      have f5:(((k' : Int)+1)==(D.length:Int) - 1)=true:=beq_iff_eq.2 h5;have f6:decide (x≤lx)=true:=dqt h6;clear h4 h5
      go_wp2_with fail
      go_quiet (fail)
      go_wp2
      go_ret
      exact⟨by rw[hB.out];rfl,_,by first|exact HW.out|(rw[HW.out];exact drewN_two _ _ _)⟩
     ·have hB:=mh (rchk_bad hlt fun h=>absurd (ST.out.1 h) (by omega))
      have f0:decide (x<0)=false:=dqf h0;have f1:decide (100000<x)=false:=dqf h1;have f2:decide (y < -1)=false:=dqf h2;have f3:decide (10<y)=false:=dqf h3;have f4:(y == -1)=false:=beq_eq_false_iff_ne.2 h4;have g4:(y != -1)=true:=by show(!(y == -1))=_;rw[f4];rfl
      have f5:decide (x≤lx)=true:=dqt h5;clear h4
      go_wp2_with fail
      go_quiet (fail)
      go_wp2
      go_ret
      exact⟨by rw[hB.out];rfl,_,by first|exact HW.out|(rw[HW.out];exact drewN_two _ _ _)⟩
     ·have hG:=NEXT.out (ST.out.2 (by omega))
      have HG:=mh hG;clear hG;have f0:decide (x<0)=false:=dqf h0;have f1:decide (100000<x)=false:=dqf h1;have f2:decide (y < -1)=false:=dqf h2;have f3:decide (10<y)=false:=dqf h3;have f4:(y == -1)=true:=beq_iff_eq.2 h4;have g4:(y != -1)=false:=by show(!(y == -1))=_;rw[f4];rfl
      have f5:(((k' : Int)+1)==(D.length:Int) - 1)=true:=beq_iff_eq.2 h5;have f6:decide (x≤lx)=false:=dqf h6;clear h4 h5
      go_wp2_with fail
      go_quiet (fail)
      go_wp2
      go_roundw
      case rel=>exact⟨k' + 1+1,_,by omega,by go_num,HG.out,by first|exact HW.out|(rw[HW.out];exact drewN_two _ _ _)⟩
      case measure=>simp[intOf];omega
     ·have hB:=mh (rchk_bad hlt fun h=>absurd (ST.out.1 h) (by omega))
      have f0:decide (x<0)=false:=dqf h0;have f1:decide (100000<x)=false:=dqf h1;have f2:decide (y < -1)=false:=dqf h2;have f3:decide (10<y)=false:=dqf h3;have f4:(y == -1)=false:=beq_eq_false_iff_ne.2 h4;have g4:(y != -1)=true:=by show(!(y == -1))=_;rw[f4];rfl
      have f5:decide (x≤lx)=false:=dqf h5;have f6:decide (y<ly)=true:=dqt h6;clear h4
      go_wp2_with fail
      go_quiet (fail)
      go_wp2
      go_ret
      exact⟨by rw[hB.out];rfl,_,by first|exact HW.out|(rw[HW.out];exact drewN_two _ _ _)⟩
     ·have hG:=NEXT.out (ST.out.2 (by omega))
      have HG:=mh hG;clear hG;have f0:decide (x<0)=false:=dqf h0;have f1:decide (100000<x)=false:=dqf h1;have f2:decide (y < -1)=false:=dqf h2;have f3:decide (10<y)=false:=dqf h3;have f4:(y == -1)=false:=beq_eq_false_iff_ne.2 h4;have g4:(y != -1)=true:=by show(!(y == -1))=_;rw[f4];rfl
      have f5:decide (x≤lx)=false:=dqf h5;have f6:decide (y<ly)=false:=dqf h6;clear h4
      go_wp2_with fail
      go_quiet (fail)
      go_wp2
      go_roundw
      case rel=>exact⟨k' + 1+1,_,by omega,by go_num,HG.out,by first|exact HW.out|(rw[HW.out];exact drewN_two _ _ _)⟩
      case measure=>simp[intOf];omega
   ·obtain rfl:k=D.length:=by omega
    have hc:=mh (show Re.chk D=0 from Re.chk_zero.2 ⟨h1,by omega,HOK.out⟩);clear hok hlt hk
    go_wp2
    go_ret
    exact⟨by rw[hc.out];rfl,n,HW.out⟩
end Go.Proofs.YtefcalgjnkigjaaGreat
