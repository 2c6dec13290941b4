/- Packed. -/
import Derived.Test.YtefcalgjnkigjaaGreatL17
set_option maxRecDepth 100000
set_option maxHeartbeats 8000000
open Go.Value renaming int → I
open Go.IntKind renaming i64 → O
namespace Go.Proofs.YtefcalgjnkigjaaGreat
open Go.RowKit
theorem cK (p:Option Addr)(D:List (Int × Int))(cap:Nat)(w:World)(h:jF w p D) :
  Calls Tryz.prog 48 #[.slice p D.length cap] w fun e w' => e = .returned (I O (Re.chk D))∧Below w.heap.size w w' :=by
 have hn:=h.len
 by_cases h6:6<D.length∨D.length<1
 ·have hc:Re.chk D=66:=Re.chk_not fun hR=>by have:=hR.len;have:=hR.len1;omega
  rw[hc];clear h hc
  rcases h6 with h6|h6
  ·go_enter Tryz.func48,Tryz.ntmps48
   go_wp2
   go_ret
   exact⟨rfl,brf _ _⟩
  ·have hz:¬(6:Int)<(D.length:Int):=by omega
   go_enter Tryz.func48,Tryz.ntmps48
   go_wp2
   go_ret
   exact⟨rfl,brf _ _⟩
 ·have h1:1≤D.length:=by omega
  have h66:D.length≤6:=by omega
  have H:=mh h;clear h h6;have hwl:IntKind.i64.wrap ((D.length:Int) - 1)=(D.length:Int) - 1:=by rw[IntKind.wrap_i64];omega
  go_enter Tryz.func48,Tryz.ntmps48
  go_wp2
  go_loopw [15] (fun i wr=>∃k:Nat,k≤D.length∧i=I O k∧(∀j,j<k→Re.okAt D j=true)∧Below w.heap.size w wr) (fun i _=>D.length - (intOf i).toNat)
  case atStart=>exact⟨0,Nat.zero_le _,rfl,fun j hj=>absurd hj (Nat.not_lt_zero j),brf _ _⟩
  case round =>
   obtain⟨k,hk,rfl,hok,hb⟩:=hrel;have HOK:=mh hok;have HB:=mh hb;have hsz:=hb.size
   by_cases hlt:k<D.length
   ·obtain⟨b,off,x,y,rfl,hbl,hx0,hy0,hxy⟩:=H.get hlt
    have hx1:=(hb.cell (p:=⟨b,off+k*2,none⟩) hbl).trans hx0;have hy1:=(hb.cell (p:=⟨b,off+k*2+1,none⟩) hbl).trans hy0;have hbl2:b<wr.heap.size:=nll hbl hsz;have hk0:(0:Int)≤(k:Int):=inn _;have hk1:(k:Int)<(D.length:Int):=by omega
    have next:Re.okAt D k=true→∀j,j<k+1→Re.okAt D j=true:=fun h j hj=>by
     by_cases e:j=k
     ·rw[e];exact h
     ·exact HOK j (by omega)
    have NEXT:=mh next;clear hok hb hx0 hy0 next
    rcases Nat.eq_zero_or_pos k with rfl|hpos
    ·simp only[Nat.zero_mul,Nat.add_zero]at hx1 hy1
     have ST:=mh (stOk (lx:=0) (ly:=0) hxy.out (fun h=>absurd rfl h))
     rcases (show(x<0)∨(¬(x<0)∧100000<x)∨(¬(x<0)∧¬(100000<x)∧y = -1∧(0:Int)=(D.length:Int) - 1)∨(¬(x<0)∧¬(100000<x)∧y = -1∧¬((0:Int)=(D.length:Int) - 1)∧y<0)∨(¬(x<0)∧¬(100000<x)∧¬(y = -1)∧y<0)∨(¬(x<0)∧¬(100000<x)∧¬(y = -1)∧¬(y<0)∧10<y)∨(¬(x<0)∧¬(100000<x)∧¬(y = -1)∧¬(y<0)∧¬(10<y)) by omega) with h0|⟨h0,h1⟩|⟨h0,h1,h2,h3⟩|⟨h0,h1,h2,h3,h4⟩|⟨h0,h1,h2,h3⟩|⟨h0,h1,h2,h3,h4⟩|⟨h0,h1,h2,h3,h4⟩
     ·have hB:=mh (jW hlt fun h=>absurd (ST.1 h) (by omega))
      have f0:decide (x<0)=true:=dqt h0
      go_wp2_with fail
      go_quiet (fail)
      go_wp2
      go_ret
      exact⟨by rw[hB.out];rfl,by first|exact qH (HB.alloc hsz _) (by simp;omega) (qQ _ _)|exact qH (qH (HB.alloc hsz _) (by simp;omega) (qQ _ _)) (by show w.heap.size≤(wr.alloc _).heap.size;simp;omega) (qQ _ _)⟩
     ·have hB:=mh (jW hlt fun h=>absurd (ST.1 h) (by omega))
      have f0:decide (x<0)=false:=dqf h0;have f1:decide (100000<x)=true:=dqt h1
      go_wp2_with fail
      go_quiet (fail)
      go_wp2
      go_ret
      exact⟨by rw[hB.out];rfl,by first|exact qH (HB.alloc hsz _) (by simp;omega) (qQ _ _)|exact qH (qH (HB.alloc hsz _) (by simp;omega) (qQ _ _)) (by show w.heap.size≤(wr.alloc _).heap.size;simp;omega) (qQ _ _)⟩
     ·have hG:=NEXT.out (ST.2 (by omega))
      have HG:=mh hG;clear hG;have f0:decide (x<0)=false:=dqf h0;have f1:decide (100000<x)=false:=dqf h1;have f2:(y == -1)=true:=beq_iff_eq.2 h2;have f3:((0:Int)==(D.length:Int) - 1)=true:=beq_iff_eq.2 h3;clear h2 h3
      go_wp2_with fail
      go_quiet (fail)
      go_wp2
      go_roundw
      case rel=>exact⟨0+1,by omega,by go_num,HG.out,by first|exact qH (HB.alloc hsz _) (by simp;omega) (qQ _ _)|exact qH (qH (HB.alloc hsz _) (by simp;omega) (qQ _ _)) (by show w.heap.size≤(wr.alloc _).heap.size;simp;omega) (qQ _ _)⟩
      case measure=>simp[intOf];omega
     ·have hB:=mh (jW hlt fun h=>absurd (ST.1 h) (by omega))
      have f0:decide (x<0)=false:=dqf h0;have f1:decide (100000<x)=false:=dqf h1;have f2:(y == -1)=true:=beq_iff_eq.2 h2;have f3:((0:Int)==(D.length:Int) - 1)=false:=beq_eq_false_iff_ne.2 h3;have f4:decide (y<0)=true:=dqt h4;clear h2 h3
      go_wp2_with fail
      go_quiet (fail)
      go_wp2_with fail
      go_quiet (fail)
      go_wp2
      go_ret
      exact⟨by rw[hB.out];rfl,by first|exact qH (HB.alloc hsz _) (by simp;omega) (qQ _ _)|exact qH (qH (HB.alloc hsz _) (by simp;omega) (qQ _ _)) (by show w.heap.size≤(wr.alloc _).heap.size;simp;omega) (qQ _ _)⟩
     ·have hB:=mh (jW hlt fun h=>absurd (ST.1 h) (by omega))
      have f0:decide (x<0)=false:=dqf h0;have f1:decide (100000<x)=false:=dqf h1;have f2:(y == -1)=false:=beq_eq_false_iff_ne.2 h2;have f3:decide (y<0)=true:=dqt h3;clear h2
      go_wp2_with fail
      go_quiet (fail)
      go_wp2_with fail
      go_quiet (fail)
      go_wp2
      go_ret
      exact⟨by rw[hB.out];rfl,by first|exact qH (HB.alloc hsz _) (by simp;omega) (qQ _ _)|exact qH (qH (HB.alloc hsz _) (by simp;omega) (qQ _ _)) (by show w.heap.size≤(wr.alloc _).heap.size;simp;omega) (qQ _ _)⟩
     ·have hB:=mh (jW hlt fun h=>absurd (ST.1 h) (by omega))
      have f0:decide (x<0)=false:=dqf h0;have f1:decide (100000<x)=false:=dqf h1;have f2:(y == -1)=false:=beq_eq_false_iff_ne.2 h2;have f3:decide (y<0)=false:=dqf h3;have f4:decide (10<y)=true:=dqt h4;clear h2
      go_wp2_with fail
      go_quiet (fail)
      go_wp2_with fail
      go_quiet (fail)
      go_wp2
      go_ret
      exact⟨by rw[hB.out];rfl,by first|exact qH (HB.alloc hsz _) (by simp;omega) (qQ _ _)|exact qH (qH (HB.alloc hsz _) (by simp;omega) (qQ _ _)) (by show w.heap.size≤(wr.alloc _).heap.size;simp;omega) (qQ _ _)⟩
     ·have hG:=NEXT.out (ST.2 (by omega))
      have HG:=mh hG;clear hG;have f0:decide (x<0)=false:=dqf h0;have f1:decide (100000<x)=false:=dqf h1;have f2:(y == -1)=false:=beq_eq_false_iff_ne.2 h2;have f3:decide (y<0)=false:=dqf h3;have f4:decide (10<y)=false:=dqf h4;clear h2
      go_wp2_with fail
      go_quiet (fail)
      go_wp2_with fail
      go_quiet (fail)
      go_wp2
      go_roundw
      case rel=>exact⟨0+1,by omega,by go_num,HG.out,by first|exact qH (HB.alloc hsz _) (by simp;omega) (qQ _ _)|exact qH (qH (HB.alloc hsz _) (by simp;omega) (qQ _ _)) (by show w.heap.size≤(wr.alloc _).heap.size;simp;omega) (qQ _ _)⟩
      case measure=>simp[intOf];omega
    ·obtain⟨k', rfl⟩:∃k', k=k' + 1:=⟨k - 1,by omega⟩
     obtain⟨b', off', lx,ly,e, -,hlx0,hly0,hlxy⟩:=H.get (k:=k') (by omega);simp only[Option.some.injEq,Addr.mk.injEq]at e;obtain⟨rfl,rfl, -⟩:=e;have ST:=mh (stOk (lx:=lx) (ly:=ly) hxy.out (fun _=>hlxy.out));have hlx1:=(HB.cell (p:=⟨b,off+k' * 2,none⟩) hbl).trans hlx0;have hly1:=(HB.cell (p:=⟨b,off+k' * 2+1,none⟩) hbl).trans hly0;have hw:IntKind.i64.wrap ((k' : Int)+1 - 1)=(k' : Int):=by rw[IntKind.wrap_i64];omega
     have hq0:(0:Int)≤(k' : Int):=inn _;have hq1:(k' : Int)<(D.length:Int):=by omega
     have hk0' : (0:Int)≤(k' : Int)+1:=by omega
     have hk1' : (k' : Int)+1<(D.length:Int):=by omega
     have hk2' : (0:Int)<(k' : Int)+1:=by omega
     clear hlx0 hly0
     rcases (show(x<0)∨(¬(x<0)∧100000<x)∨(¬(x<0)∧¬(100000<x)∧x≤lx)∨(¬(x<0)∧¬(100000<x)∧¬(x≤lx)∧y = -1∧((k' : Int)+1)=(D.length:Int) - 1)∨(¬(x<0)∧¬(100000<x)∧¬(x≤lx)∧y = -1∧¬(((k' : Int)+1)=(D.length:Int) - 1)∧y<0)∨(¬(x<0)∧¬(100000<x)∧¬(x≤lx)∧¬(y = -1)∧y<0)∨(¬(x<0)∧¬(100000<x)∧¬(x≤lx)∧¬(y = -1)∧¬(y<0)∧10<y)∨(¬(x<0)∧¬(100000<x)∧¬(x≤lx)∧¬(y = -1)∧¬(y<0)∧¬(10<y)∧y<ly)∨(¬(x<0)∧¬(100000<x)∧¬(x≤lx)∧¬(y = -1)∧¬(y<0)∧¬(10<y)∧¬(y<ly)) by omega) with h0|⟨h0,h1⟩|⟨h0,h1,h2⟩|⟨h0,h1,h2,h3,h4⟩|⟨h0,h1,h2,h3,h4,h5⟩|⟨h0,h1,h2,h3,h4⟩|⟨h0,h1,h2,h3,h4,h5⟩|⟨h0,h1,h2,h3,h4,h5,h6⟩|⟨h0,h1,h2,h3,h4,h5,h6⟩
     ·have hB:=mh (jW hlt fun h=>absurd (ST.1 h) (by omega))
      have f0:decide (x<0)=true:=dqt h0
      go_wp2_with fail
      go_quiet (fail)
      go_wp2
      go_ret
      exact⟨by rw[hB.out];rfl,by first|exact qH (HB.alloc hsz _) (by simp;omega) (qQ _ _)|exact qH (qH (HB.alloc hsz _) (by simp;omega) (qQ _ _)) (by show w.heap.size≤(wr.alloc _).heap.size;simp;omega) (qQ _ _)⟩
     ·have hB:=mh (jW hlt fun h=>absurd (ST.1 h) (by omega))
      have f0:decide (x<0)=false:=dqf h0;have f1:decide (100000<x)=true:=dqt h1
      go_wp2_with fail
      go_quiet (fail)
      go_wp2
      go_ret
      exact⟨by rw[hB.out];rfl,by first|exact qH (HB.alloc hsz _) (by simp;omega) (qQ _ _)|exact qH (qH (HB.alloc hsz _) (by simp;omega) (qQ _ _)) (by show w.heap.size≤(wr.alloc _).heap.size;simp;omega) (qQ _ _)⟩
     ·have hB:=mh (jW hlt fun h=>absurd (ST.1 h) (by omega))
      have f0:decide (x<0)=false:=dqf h0;have f1:decide (100000<x)=false:=dqf h1;have f2:decide (x≤lx)=true:=dqt h2
      go_wp2_with fail
      go_quiet (fail)
      go_wp2
      go_ret
      exact⟨by rw[hB.out];rfl,by first|exact qH (HB.alloc hsz _) (by simp;omega) (qQ _ _)|exact qH (qH (HB.alloc hsz _) (by simp;omega) (qQ _ _)) (by show w.heap.size≤(wr.alloc _).heap.size;simp;omega) (qQ _ _)⟩
     ·have hG:=NEXT.out (ST.2 (by omega))
      have HG:=mh hG;clear hG;have f0:decide (x<0)=false:=dqf h0;have f1:decide (100000<x)=false:=dqf h1;have f2:decide (x≤lx)=false:=dqf h2;have f3:(y == -1)=true:=beq_iff_eq.2 h3;have f4:(((k' : Int)+1)==(D.length:Int) - 1)=true:=beq_iff_eq.2 h4;clear h3 h4
      go_wp2_with fail
      go_quiet (fail)
      go_wp2
      go_roundw
      case rel=>exact⟨k' + 1+1,by omega,by go_num,HG.out,by first|exact qH (HB.alloc hsz _) (by simp;omega) (qQ _ _)|exact qH (qH (HB.alloc hsz _) (by simp;omega) (qQ _ _)) (by show w.heap.size≤(wr.alloc _).heap.size;simp;omega) (qQ _ _)⟩
      case measure=>simp[intOf];omega
     ·have hB:=mh (jW hlt fun h=>absurd (ST.1 h) (by omega))
      have f0:decide (x<0)=false:=dqf h0;have f1:decide (100000<x)=false:=dqf h1;have f2:decide (x≤lx)=false:=dqf h2;have f3:(y == -1)=true:=beq_iff_eq.2 h3;have f4:(((k' : Int)+1)==(D.length:Int) - 1)=false:=beq_eq_false_iff_ne.2 h4;have f5:decide (y<0)=true:=dqt h5;clear h3 h4
      go_wp2_with fail
      go_quiet (fail)
      go_wp2_with fail
      go_quiet (fail)
      go_wp2
      go_ret
      exact⟨by rw[hB.out];rfl,by first|exact qH (HB.alloc hsz _) (by simp;omega) (qQ _ _)|exact qH (qH (HB.alloc hsz _) (by simp;omega) (qQ _ _)) (by show w.heap.size≤(wr.alloc _).heap.size;simp;omega) (qQ _ _)⟩
     ·have hB:=mh (jW hlt fun h=>absurd (ST.1 h) (by omega))
      have f0:decide (x<0)=false:=dqf h0;have f1:decide (100000<x)=false:=dqf h1;have f2:decide (x≤lx)=false:=dqf h2;have f3:(y == -1)=false:=beq_eq_false_iff_ne.2 h3;have f4:decide (y<0)=true:=dqt h4;clear h3
      go_wp2_with fail
      go_quiet (fail)
      go_wp2_with fail
      go_quiet (fail)
      go_wp2
      go_ret
      exact⟨by rw[hB.out];rfl,by first|exact qH (HB.alloc hsz _) (by simp;omega) (qQ _ _)|exact qH (qH (HB.alloc hsz _) (by simp;omega) (qQ _ _)) (by show w.heap.size≤(wr.alloc _).heap.size;simp;omega) (qQ _ _)⟩
     ·have hB:=mh (jW hlt fun h=>absurd (ST.1 h) (by omega))
      have f0:decide (x<0)=false:=dqf h0;have f1:decide (100000<x)=false:=dqf h1;have f2:decide (x≤lx)=false:=dqf h2;have f3:(y == -1)=false:=beq_eq_false_iff_ne.2 h3;have f4:decide (y<0)=false:=dqf h4;have f5:decide (10<y)=true:=dqt h5;clear h3
      go_wp2_with fail
      go_quiet (fail)
      go_wp2_with fail
      go_quiet (fail)
      go_wp2
      go_ret
      exact⟨by rw[hB.out];rfl,by first|exact qH (HB.alloc hsz _) (by simp;omega) (qQ _ _)|exact qH (qH (HB.alloc hsz _) (by simp;omega) (qQ _ _)) (by show w.heap.size≤(wr.alloc _).heap.size;simp;omega) (qQ _ _)⟩
     ·have hB:=mh (jW hlt fun h=>absurd (ST.1 h) (by omega))
      have f0:decide (x<0)=false:=dqf h0;have f1:decide (100000<x)=false:=dqf h1;have f2:decide (x≤lx)=false:=dqf h2;have f3:(y == -1)=false:=beq_eq_false_iff_ne.2 h3;have f4:decide (y<0)=false:=dqf h4;have f5:decide (10<y)=false:=dqf h5;have f6:decide (y<ly)=true:=dqt h6;clear h3
      go_wp2_with fail
      go_quiet (fail)
      go_wp2_with fail
      go_quiet (fail)
      go_wp2
      go_ret
      exact⟨by rw[hB.out];rfl,by first|exact qH (HB.alloc hsz _) (by simp;omega) (qQ _ _)|exact qH (qH (HB.alloc hsz _) (by simp;omega) (qQ _ _)) (by show w.heap.size≤(wr.alloc _).heap.size;simp;omega) (qQ _ _)⟩
     ·have hG:=NEXT.out (ST.2 (by omega))
      have HG:=mh hG;clear hG;have f0:decide (x<0)=false:=dqf h0;have f1:decide (100000<x)=false:=dqf h1;have f2:decide (x≤lx)=false:=dqf h2;have f3:(y == -1)=false:=beq_eq_false_iff_ne.2 h3;have f4:decide (y<0)=false:=dqf h4;have f5:decide (10<y)=false:=dqf h5;have f6:decide (y<ly)=false:=dqf h6;clear h3
      go_wp2_with fail
      go_quiet (fail)
      go_wp2_with fail
      go_quiet (fail)
      go_wp2
      go_roundw
      case rel=>exact⟨k' + 1+1,by omega,by go_num,HG.out,by first|exact qH (HB.alloc hsz _) (by simp;omega) (qQ _ _)|exact qH (qH (HB.alloc hsz _) (by simp;omega) (qQ _ _)) (by show w.heap.size≤(wr.alloc _).heap.size;simp;omega) (qQ _ _)⟩
      case measure=>simp[intOf];omega
   ·obtain rfl:k=D.length:=by omega
    have hc:=mh (show Re.chk D=0 from Re.chk_zero.2 ⟨h1,by omega,HOK.out⟩);clear hok hb hlt hk
    go_wp2
    go_ret
    exact⟨by rw[hc.out];rfl,HB.out⟩
theorem uYA (a b:Int)(w:World)(ha : -9223372036854775808≤a)(ha' : a≤9223372036854775807) :
  Calls Tryz.prog 187 #[I O a,I O b] w fun e w' => e = .returned (I O (Ex.up a b))∧w=w' :=by
 by_cases h:a = -9223372036854775808
 ·have e:Ex.up a b=0:=by
   unfold Ex.up Ex.down;rw[if_neg (by rw[Ex.fits_iff];omega)]
   rfl
  have e2:Ex.down a b=0:=by
   unfold Ex.down;rw[if_neg (by rw[Ex.fits_iff];omega)]
  have mm:IntKind.i64.wrap (-a)=a:=by rw[IntKind.wrap_i64];omega
  have hd:=fun w=>lB a b w
  rw[e2]at hd;rw[e];have HD:=mh hd;clear hd e e2 h ha ha'
  go_enter Tryz.func187,Tryz.ntmps187
  go_wp2_with ((go_at_call 183;refine(HD _).mono ?_;rintro e w' ⟨rfl,rfl⟩))
  go_ret
  exact⟨rfl,rfl⟩
 ·exact uWA a b w (by omega) ha'
theorem tJ (a b:Int)(w:World) :
  Calls Tryz.prog 153 #[I O a,I O b] w fun e w' => e = .returned (I O (Ex.up a b))∧w=w' :=by
 by_cases hf:Ex.fits a b=true
 ·obtain⟨h1,h2,h3,h4⟩:=Ex.fits_iff.1 hf
  have h:=Ex.down_bd (-a) b;unfold Ex.up
  go_enter Tryz.func153,Tryz.ntmps153
  go_wp2_with (first|(go_at_call 150;refine(qGA _ _ _).mono ?_;rintro e w' ⟨rfl,rfl⟩)|(go_at_call 188;refine(vA _ _ _).mono ?_;rintro e w' ⟨rfl,rfl⟩))
  go_ret
  exact⟨rfl,rfl⟩
 ·have e:Ex.up a b=0:=by
   unfold Ex.up Ex.down;rw[if_neg]
   ·rfl
   ·rw[Ex.fits_iff]
    rw[Ex.fits_iff]at hf;omega
  replace hf:Ex.fits a b=false:=by simpa using hf
  rw[e]
  go_enter Tryz.func153,Tryz.ntmps153
  go_wp2_with (first|(go_at_call 188;refine(vA _ _ _).mono ?_;rintro e w' ⟨rfl,rfl⟩))
  go_ret
  exact⟨rfl,rfl⟩
theorem qMA (t p s:Int)(w:World) :
  Calls Tryz.prog 152 #[I O t,I O p,I O s] w fun e w' => e = .returned (.tuple #[I O (uG t p s).1,I O (uG t p s).2])∧∃n,w' = w.drewN n:=by
 by_cases hin:0≤t∧t≤1099511627776∧0≤p∧p≤1099511627776∧1≤s∧s≤1099511627776
 ·have hp:uG t p s=if 1125899906842624<t*p / s then (0,2) else (t*p / s,0):=by unfold uG;rw[if_pos hin]
  obtain⟨t0,t1,p0,p1,s0,s1⟩:=hin;have h:Div t p s:=⟨t0,t1,p0,p1,s0,by omega⟩;obtain⟨g1,g2⟩:=rq_gt h;have hd:=wP h;rw[hp];clear hp h;have HD:=mh hd;clear hd;generalize rq t p s=q at *;generalize rk t p s=k at *;generalize t*p / s=x at *
  by_cases hgt:1125899906842624<x
  ·rw[if_pos hgt]
   have hq:=g1.2 hgt;clear g1 g2
   rcases hq with hq|hq
   ·subst hq
    go_enter Tryz.func152,Tryz.ntmps152
    go_wp2_with (first|(go_at_call 140;refine(HD _).mono ?_;rintro e w1 ⟨rfl,n,rfl⟩))
    go_ret2
    exact⟨rfl,n,rfl⟩
   ·cases k
    all_goals
     go_enter Tryz.func152,Tryz.ntmps152
     go_wp2_with (first|(go_at_call 140;refine(HD _).mono ?_;rintro e w1 ⟨rfl,n,rfl⟩))
     go_ret2
     exact⟨rfl,n,rfl⟩
  ·rw[if_neg hgt]
   obtain⟨rfl,rfl⟩:=g2 hgt;clear g1 g2
   go_enter Tryz.func152,Tryz.ntmps152
   go_wp2_with (first|(go_at_call 140;refine(HD _).mono ?_;rintro e w1 ⟨rfl,n,rfl⟩))
   go_ret2
   exact⟨rfl,n,rfl⟩
 ·have hp:uG t p s=(0,2):=by unfold uG;rw[if_neg hin]
  rw[hp]
  by_cases c1:t<0
  ·go_enter Tryz.func152,Tryz.ntmps152
   go_wp2
   go_ret2
   exact⟨rfl,0,rfl⟩
  by_cases c2:1099511627776<t
  ·go_enter Tryz.func152,Tryz.ntmps152
   go_wp2
   go_ret2
   exact⟨rfl,0,rfl⟩
  by_cases c3:p<0
  ·go_enter Tryz.func152,Tryz.ntmps152
   go_wp2
   go_ret2
   exact⟨rfl,0,rfl⟩
  by_cases c4:1099511627776<p
  ·go_enter Tryz.func152,Tryz.ntmps152
   go_wp2
   go_ret2
   exact⟨rfl,0,rfl⟩
  by_cases c5:s<1
  ·go_enter Tryz.func152,Tryz.ntmps152
   go_wp2
   go_ret2
   exact⟨rfl,0,rfl⟩
  have c6:1099511627776<s:=by omega
  go_enter Tryz.func152,Tryz.ntmps152
  go_wp2
  go_ret2
  exact⟨rfl,0,rfl⟩
theorem yW (n:Int)(w:World):Calls Tryz.prog 88 #[I O n] w fun e w' => e = .returned (.bool (En.money n))∧w=w' :=by
 by_cases h:0≤n
 ·by_cases h2:n≤68719476736
  ·rw[En.money_iff.2 ⟨h,h2⟩]
   go_enter Tryz.func88,Tryz.ntmps88
   go_wp2
   go_ret
   exact⟨rfl,rfl⟩
  ·rw[En.money_not.2 (.inr (by omega))]
   go_enter Tryz.func88,Tryz.ntmps88
   go_wp2
   go_ret
   exact⟨rfl,rfl⟩
 ·rw[En.money_not.2 (.inl (by omega))]
  go_enter Tryz.func88,Tryz.ntmps88
  go_wp2
  go_ret
  exact⟨rfl,rfl⟩
theorem qL (n:Int)(w:World):Calls Tryz.prog 56 #[I O n] w fun e w' => e = .returned (.bool (En.money n))∧w=w' :=by
 by_cases h:0≤n
 ·by_cases h2:n≤68719476736
  ·rw[En.money_iff.2 ⟨h,h2⟩]
   go_enter Tryz.func56,Tryz.ntmps56
   go_wp2
   go_ret
   exact⟨rfl,rfl⟩
  ·rw[En.money_not.2 (.inr (by omega))]
   go_enter Tryz.func56,Tryz.ntmps56
   go_wp2
   go_ret
   exact⟨rfl,rfl⟩
 ·rw[En.money_not.2 (.inl (by omega))]
  go_enter Tryz.func56,Tryz.ntmps56
  go_wp2
  go_ret
  exact⟨rfl,rfl⟩
theorem mE {D:List (Int × Int)}{k:Nat}{x y lx ly:Int}(h:D.getD k (0,0)=(x,y))(hl:k≠0→D.getD (k - 1) (0,0)=(lx,ly))(h0:k=0→lx=0∧ly=0)
  (hb:En.money x=false∨y<0∨1000<y∨y<ly∨(0<k∧x≤lx)):¬Ce.okAt D k=true:=by
 rw[Ce.okAt_iff];unfold Ce.fr Ce.mi;rw[h];rw[En.money_not]at hb
 by_cases hk:k=0
 ·obtain⟨rfl,rfl⟩:=h0 hk
  simp only;omega
 ·rw[hl hk]
  simp only;omega
theorem cQ {D:List (Int × Int)}{k:Nat}{x y lx ly:Int}(h:D.getD k (0,0)=(x,y))(hl:k≠0→D.getD (k - 1) (0,0)=(lx,ly))
  (h1:En.money x=true) (h2:¬y<0) (h3:¬1000<y) (h4:¬y<ly) (h5:¬(0<k∧x≤lx)):Ce.okAt D k=true:=by
 rw[Ce.okAt_iff];unfold Ce.fr Ce.mi;rw[h];rw[En.money_iff]at h1
 by_cases hk:k=0
 ·simp only
  omega
 ·rw[hl hk]
  simp only;omega
theorem rQ {D:List (Int × Int)}{k:Nat}(hk:k<D.length)(h:¬Ce.okAt D k=true):Ce.chk D=66:=Ce.chk_not fun hR=>h (hR.ok k hk)
structure rE (w wr:World) (D:List (Int × Int)) (k:Nat) (lx ly:Int):Prop where
 below:Below w.heap.size w wr
 two:Two wr w.heap.size lx ly
 last:k≠0→D.getD (k - 1) (0,0)=(lx,ly)
 first:k=0→lx=0∧ly=0
 ok:∀j,j<k→Ce.okAt D j=true
theorem rE.step {w wr:World}{D:List (Int × Int)}{k:Nat}{lx ly x y:Int}(h:rE w wr D k lx ly)(hxy:D.getD k (0,0)=(x,y))(hok:Ce.okAt D k=true)(o:Obj) :
  rE w (((wr.setCell ⟨w.heap.size,0,none⟩ (I O x)).setCell ⟨w.heap.size,1,none⟩ (I O y)).alloc o) D (k+1) x y:=by
 obtain⟨lt,c0,c1,f0,f1⟩:=h.two;refine⟨?_,⟨by simp;omega,by go_simp,by go_simp,by go_simp,by go_simp⟩,fun _=>hxy,fun h=>absurd h (by omega),fun j hj=>?_⟩
 ·exact((h.below.setCell (p:=⟨w.heap.size,0,none⟩) (by simp) _).setCell (p:=⟨w.heap.size,1,none⟩) (by simp) _).alloc (by simp;omega) o
 ·by_cases e:j=k
  ·rw[e];exact hok
  ·exact h.ok j (by omega)
theorem sF (p:Option Addr)(D:List (Int × Int))(cap:Nat)(w:World)(h:jF w p D) :
  Calls Tryz.prog 50 #[.slice p D.length cap] w fun e w' => e = .returned (I O (Ce.chk D))∧Below w.heap.size w w' :=by
 have hn:=h.len
 by_cases h6:6<D.length
 ·have hc:Ce.chk D=66:=Ce.chk_not fun hR=>by have:=hR.len;omega
  rw[hc];clear h
  go_enter Tryz.func50,Tryz.ntmps50
  go_wp2
  go_ret
  exact⟨rfl,brf _ _⟩
 ·have H:=mh h
  clear h
  go_enter Tryz.func50,Tryz.ntmps50
  go_wp2
  have hst:rE w (w.alloc (Obj.cells #[I O 0,I O 0] 150)) D 0 0 0 :=
   ⟨(brf _ _).alloc mle _,⟨by simp,by go_simp,by go_simp,by go_simp,by go_simp⟩,fun h=>absurd rfl h,fun _=>⟨rfl,rfl⟩,fun j hj=>absurd hj (Nat.not_lt_zero j)⟩
  have HST:=mh hst;clear hst
  go_loopw [11] (fun i wr=>∃(k:Nat) (lx ly:Int),k≤D.length∧i=I O k∧rE w wr D k lx ly) (fun i _=>D.length - (intOf i).toNat)
  case atStart=>exact⟨0,0,0,Nat.zero_le _,rfl,HST.out⟩
  case round =>
   clear HST;obtain⟨k,lx,ly,hk,rfl,hC⟩:=hrel;have HC:=mh hC
   by_cases hlt:k<D.length
   ·obtain⟨b,off,x,y,rfl,hbl,hx0,hy0,hxy⟩:=H.get hlt
    have hx1:=(hC.below.cell (p:=⟨b,off+k*2,none⟩) hbl).trans hx0;have hy1:=(hC.below.cell (p:=⟨b,off+k*2+1,none⟩) hbl).trans hy0;have c0:=hC.two.c0;have c1:=hC.two.c1;have f0:=hC.two.f0;have f1:=hC.two.f1;have lt:=hC.two.lt;clear hC hx0 hy0
    go_wp2_with (first|(go_at_call 88;refine(yW _ _).mono ?_;rintro e w' ⟨rfl,rfl⟩))
    all_goals try (go_ret;exact⟨by rw[rQ hlt (mE hxy.out HC.out.last HC.out.first (by first|exact .inl (Bool.eq_false_iff.2 (by assumption))|exact .inr (by omega)))];rfl,HC.below.alloc (Nat.le_of_lt HC.two.lt) _⟩)
    all_goals try exact⟨⟨k+1,x,y,by omega,by go_num,HC.step hxy.out (cQ hxy.out HC.last (by assumption) (by omega) (by omega) (by omega) (by omega)) _⟩,by simp[intOf];omega⟩
   ·obtain rfl:k=D.length:=by omega
    have hc:=mh (show Ce.chk D=0 from Ce.chk_zero.2 ⟨by omega,HC.ok⟩);clear hC hlt hk
    go_wp2
    go_ret
    exact⟨by rw[hc.out];rfl,HC.below⟩
open Sc As
theorem bH {Q:Nat→Prop}(d:Nat)(r:RY)(l:YLaw)(w:World)(h:YV Q w d r l)(hsc:r.sn≤r.sc) :
  Calls Tryz.prog 12 #[.agg (yCells r).toArray] w (kW (kG l) w):=by
 have hs0:=h.sch.len;obtain⟨sp,sn,sc,tp,tn,tc,ldue,llast,lmille,gp,gn,gc,cp,ev,un,wd⟩:=r;obtain⟨sch,steps,⟨ldue', llast', lmille'⟩,deg,cp', ev', un', wd'⟩:=l;have e1:=h.sn;have e2:=h.tn;have e3:=h.due;have e4:=h.last;have e5:=h.mille;have e6:=h.gn;have e7:=h.cap;have e8:=h.env;have e9:=h.unit;have e10:=h.width;simp only at e1 e2 e3 e4 e5 e6 e7 e8 e9 e10 hsc;subst e1 e2 e3 e4 e5 e6 e7 e8 e9 e10;have C17:=mh (fun (W:World) (hb:Below w.heap.size w W)=>lU d sp sch sc W (h.sch.below hb) h.small hsc);have CR:=mh (fun (W:World) (hb:Below w.heap.size w W)=>cK tp steps tc W (h.steps.below hb));have CL:=mh (fun (W:World)=>bU ldue llast lmille W);have CC:=mh (fun (W:World) (hb:Below w.heap.size w W)=>sF gp deg gc W (h.deg.below hb));have HA:=mh (qK mle (brf w.heap.size w) (.cells #[.slice sp sch.length sc,.slice tp steps.length tc,I O ldue,I O llast,I O lmille,.slice gp deg.length gc,I O cp,I O ev,I O un,I O wd] 29))
 have EV:=mh (show kG ⟨sch,steps,⟨ldue,llast,lmille⟩,deg,cp,ev,un,wd⟩=if sch.length=0 then 17 else if (jU sch).2≠0 then (jU sch).2 else if Re.chk steps≠0 then Re.chk steps else if chkL ⟨ldue,llast,lmille⟩≠0 then chkL ⟨ldue,llast,lmille⟩ else if Ce.chk deg≠0 then Ce.chk deg
  else if En.money cp=false∨En.money ev=false then 67 else if un<1∨100000<un∨wd<0∨200<wd then 2 else 0 from rfl)
 obtain⟨V,eV⟩:∃V,kG ⟨sch,steps,⟨ldue,llast,lmille⟩,deg,cp,ev,un,wd⟩=V:=⟨_,rfl⟩;obtain⟨⟨v1,v2⟩,ev17⟩:∃v,jU sch=v:=⟨_,rfl⟩;obtain⟨x1,ex1⟩:∃x,Re.chk steps=x:=⟨_,rfl⟩;obtain⟨x2,ex2⟩:∃x,chkL ⟨ldue,llast,lmille⟩=x:=⟨_,rfl⟩;obtain⟨x3,ex3⟩:∃x,Ce.chk deg=x:=⟨_,rfl⟩;rw[eV,ev17,ex1,ex2,ex3]at EV;rw[eV];rw[ev17]at C17;rw[ex1]at CR;rw[ex2]at CL;rw[ex3]at CC;clear eV ev17 ex1 ex2 ex3 h hsc;simp only[yCells]
 by_cases hz:sch.length=0
 ·have E:=mh (show V=17 from by rw[EV.out,if_pos hz])
  clear EV C17 CR CL CC hs0;have hz' : ((sch.length:Int)==0)=true:=by rw[hz];rfl
  clear hz
  go_enter Tryz.func12,Tryz.ntmps12
  go_wp2
  go_ret
  exact⟨by rw[E.out];rfl,HA.out⟩
 have hz' : ((sch.length:Int)==0)=false:=by
  rw[← Bool.not_eq_true];intro e;exact hz (by simpa using e)
 by_cases h17:v2=0
 rotate_left
 ·have E:=mh (show V=v2 from by rw[EV.out,if_neg hz];simp only;rw[if_pos h17])
  have hne:(v2 != 0)=true:=by simpa using h17
  clear EV CR CL CC hz h17
  go_enter Tryz.func12,Tryz.ntmps12
  go_wp2_with (go_at_call 47;(with_reducible refine cmo (C17.out _ HA.out) ?_);rintro e w1 ⟨rfl,hb1⟩;have HB1:=mh (qZ mle HA hb1);have S1:=mh (show w.heap.size<w1.heap.size from nll (by simp) hb1.size);have K1:=qJ hb1 1;have K2:=qJ hb1 2;have K3:=qJ hb1 3;have K4:=qJ hb1 4;have K5:=qJ hb1 5;have K6:=qJ hb1 6;have K7:=qJ hb1 7;have K8:=qJ hb1 8;have K9:=qJ hb1 9;clear hb1)
  go_ret
  exact⟨by rw[E.out];rfl,HB1.out⟩
 subst h17
 have EV2:=mh (show V=if x1≠0 then x1 else if x2≠0 then x2 else if x3≠0 then x3 else if En.money cp=false∨En.money ev=false then 67 else if un<1∨100000<un∨wd<0∨200<wd then 2 else 0 from by
  rw[EV.out,if_neg hz];simp only;rw[if_neg (by decide)])
 have MO1:=mh (fun (W:World)=>bB cp W);have MO2:=mh (fun (W:World)=>bB ev W);obtain⟨m1,em1⟩:∃m,En.money cp=m:=⟨_,rfl⟩;obtain⟨m2,em2⟩:∃m,En.money ev=m:=⟨_,rfl⟩;rw[em1,em2]at EV2;rw[em1]at MO1;rw[em2]at MO2;clear EV hz em1 em2
 go_enter Tryz.func12,Tryz.ntmps12
 go_wp2_with (go_at_call 47;(with_reducible refine cmo (C17.out _ HA.out) ?_);rintro e w1 ⟨rfl,hb1⟩;have HB1:=mh (qZ mle HA hb1);have S1:=mh (show w.heap.size<w1.heap.size from nll (by simp) hb1.size);have K1:=qJ hb1 1;have K2:=qJ hb1 2;have K3:=qJ hb1 3;have K4:=qJ hb1 4;have K5:=qJ hb1 5;have K6:=qJ hb1 6;have K7:=qJ hb1 7;have K8:=qJ hb1 8;have K9:=qJ hb1 9;clear hb1)
 go_region_held3 (fun w' => w'.cell? ⟨w.heap.size,1,none⟩=some (.slice tp steps.length tc)∧w'.cell? ⟨w.heap.size,2,none⟩=some (I O ldue)∧w'.cell? ⟨w.heap.size,3,none⟩=some (I O llast)∧w'.cell? ⟨w.heap.size,4,none⟩=some (I O lmille)∧w'.cell? ⟨w.heap.size,5,none⟩=some (.slice gp deg.length gc))
  (first|with_reducible exact⟨K1,K2,K3,K4,K5⟩|with_reducible exact⟨L1,L2,L3,L4,L5⟩|with_reducible exact⟨M1,M2,M3,M4,M5⟩|with_reducible exact⟨N1,N2,N3,N4,N5⟩|go_keep) (first|(go_at_call 48;(with_reducible refine cmo (CR.out _ HB1.out.drew) ?_);rintro e w2 ⟨rfl,hb2⟩;have HB2:=mh (qZ mle HB1.drew hb2);have S2:=mh (show w.heap.size<w2.heap.size from nll S1 hb2.size);have L1:=(hb2.cell (p:=⟨w.heap.size,1,none⟩) S1).trans K1;have L2:=(hb2.cell (p:=⟨w.heap.size,2,none⟩) S1).trans K2;have L3:=(hb2.cell (p:=⟨w.heap.size,3,none⟩) S1).trans K3;have L4:=(hb2.cell (p:=⟨w.heap.size,4,none⟩) S1).trans K4;have L5:=(hb2.cell (p:=⟨w.heap.size,5,none⟩) S1).trans K5;have L6:=(hb2.cell (p:=⟨w.heap.size,6,none⟩) S1).trans K6;have L7:=(hb2.cell (p:=⟨w.heap.size,7,none⟩) S1).trans K7;have L8:=(hb2.cell (p:=⟨w.heap.size,8,none⟩) S1).trans K8;have L9:=(hb2.cell (p:=⟨w.heap.size,9,none⟩) S1).trans K9;clear hb2)|(go_at_call 49;(with_reducible refine cmo (CL.out _) ?_);rintro e w3 ⟨rfl,hb3⟩;have HB3:=mh (qZ mle HB2 hb3);have S3:=mh (show w.heap.size<w3.heap.size from nll S2 hb3.size);have M1:=(hb3.cell (p:=⟨w.heap.size,1,none⟩) S2).trans L1;have M2:=(hb3.cell (p:=⟨w.heap.size,2,none⟩) S2).trans L2;have M3:=(hb3.cell (p:=⟨w.heap.size,3,none⟩) S2).trans L3;have M4:=(hb3.cell (p:=⟨w.heap.size,4,none⟩) S2).trans L4;have M5:=(hb3.cell (p:=⟨w.heap.size,5,none⟩) S2).trans L5;have M6:=(hb3.cell (p:=⟨w.heap.size,6,none⟩) S2).trans L6;have M7:=(hb3.cell (p:=⟨w.heap.size,7,none⟩) S2).trans L7;have M8:=(hb3.cell (p:=⟨w.heap.size,8,none⟩) S2).trans L8;have M9:=(hb3.cell (p:=⟨w.heap.size,9,none⟩) S2).trans L9;clear hb3)|(go_at_call 50;(with_reducible refine cmo (CC.out _ HB3.out) ?_);rintro e w4 ⟨rfl,hb4⟩;have HB4:=mh (qZ mle HB3 hb4);have S4:=mh (show w.heap.size<w4.heap.size from nll S3 hb4.size);have N1:=(hb4.cell (p:=⟨w.heap.size,1,none⟩) S3).trans M1;have N2:=(hb4.cell (p:=⟨w.heap.size,2,none⟩) S3).trans M2;have N3:=(hb4.cell (p:=⟨w.heap.size,3,none⟩) S3).trans M3;have N4:=(hb4.cell (p:=⟨w.heap.size,4,none⟩) S3).trans M4;have N5:=(hb4.cell (p:=⟨w.heap.size,5,none⟩) S3).trans M5;have N6:=(hb4.cell (p:=⟨w.heap.size,6,none⟩) S3).trans M6;have N7:=(hb4.cell (p:=⟨w.heap.size,7,none⟩) S3).trans M7;have N8:=(hb4.cell (p:=⟨w.heap.size,8,none⟩) S3).trans M8;have N9:=(hb4.cell (p:=⟨w.heap.size,9,none⟩) S3).trans M9;clear hb4)|fail)
 go_wp2
 obtain⟨G0,G1,G2⟩:(w4.alloc (.cells #[I O x1,I O x2,I O x3] 39)).cell? ⟨w4.heap.size,0,none⟩=some (I O x1)∧(w4.alloc (.cells #[I O x1,I O x2,I O x3] 39)).cell? ⟨w4.heap.size,1,none⟩=some (I O x2)∧(w4.alloc (.cells #[I O x1,I O x2,I O x3] 39)).cell? ⟨w4.heap.size,2,none⟩=some (I O x3):=⟨cwn _ _ _ 0,cwn _ _ _ 1,cwn _ _ _ 2⟩;have HB5:=mh (qK mle HB4 (.cells #[I O x1,I O x2,I O x3] 39));have hb5:=(brf w4.heap.size w4).alloc mle (.cells #[I O x1,I O x2,I O x3] 39);have O4:=(hb5.cell (p:=⟨w.heap.size,4,none⟩) S4).trans N4;have O5:=(hb5.cell (p:=⟨w.heap.size,5,none⟩) S4).trans N5;have O6:=(hb5.cell (p:=⟨w.heap.size,6,none⟩) S4).trans N6;have O7:=(hb5.cell (p:=⟨w.heap.size,7,none⟩) S4).trans N7;have O8:=(hb5.cell (p:=⟨w.heap.size,8,none⟩) S4).trans N8;have O9:=(hb5.cell (p:=⟨w.heap.size,9,none⟩) S4).trans N9
  
 generalize w4.alloc (.cells #[I O x1,I O x2,I O x3] 39)=W5 at *;generalize w4.heap.size=b5 at *;clear hb5 K1 K2 K3 K4 K5 K6 K7 K8 K9 L1 L2 L3 L4 L5 L6 L7 L8 L9 M1 M2 M3 M4 M5 M6 M7 M8 M9 N1 N2 N3 N4 N5 N6 N7 N8 N9 C17 CR CL CC HB1 HB2 HB3 HB4 S1 S2 S3 S4 HA
 go_loop [31] (fun i=>∃k:Nat,k≤3∧i=I O k∧(0<k→x1=0)∧(1<k→x2=0)∧(2<k→x3=0)) (fun i=>3 - (intOf i).toNat)
 case atStart=>exact⟨0,by omega,rfl,by omega,by omega,by omega⟩
 case round =>
  obtain⟨k,hk,rfl,h1,h2,h3⟩:=hrel
  rcases (show k=0∨k=1∨k=2∨k=3 by omega) with rfl|rfl|rfl|rfl
  ·clear h1 h2 h3 hk
   rw[show((0:Nat):Int)=0 from rfl]
   by_cases hx:x1=0
   ·have H1:=mh hx
    have hx' : (x1 != 0)=false:=by simp[hx]
    clear hx
    go_wp2
    go_round
    case rel=>exact⟨1,by omega,rfl,fun _=>H1.out,by omega,by omega⟩
    case measure=>simp[intOf]
   ·have E:=mh (show V=x1 from by rw[EV2.out,if_pos hx])
    have hx' : (x1 != 0)=true:=by simpa using hx
    clear hx EV2
    go_wp2
    go_ret
    exact⟨by rw[E.out];rfl,HB5.out⟩
  ·have z1:=h1 (by omega)
   have H1:=mh z1;clear h1 h2 h3 hk z1;rw[show((1:Nat):Int)=1 from rfl]
   by_cases hx:x2=0
   ·have H2:=mh hx
    have hx' : (x2 != 0)=false:=by simp[hx]
    clear hx
    go_wp2
    go_round
    case rel=>exact⟨2,by omega,rfl,fun _=>H1.out,fun _=>H2.out,by omega⟩
    case measure=>simp[intOf]
   ·have E:=mh (show V=x2 from by rw[EV2.out,if_neg (by rw[H1.out];decide),if_pos hx])
    have hx' : (x2 != 0)=true:=by simpa using hx
    clear hx EV2
    go_wp2
    go_ret
    exact⟨by rw[E.out];rfl,HB5.out⟩
  ·have z1:=h1 (by omega)
   have H1:=mh z1;have z2:=h2 (by omega);have H2:=mh z2;clear h1 h2 h3 hk z1 z2;rw[show((2:Nat):Int)=2 from rfl]
   by_cases hx:x3=0
   ·have H3:=mh hx
    have hx' : (x3 != 0)=false:=by simp[hx]
    clear hx
    go_wp2
    go_round
    case rel=>exact⟨3,by omega,rfl,fun _=>H1.out,fun _=>H2.out,fun _=>H3.out⟩
    case measure=>simp[intOf]
   ·have E:=mh (show V=x3 from by rw[EV2.out,if_neg (by rw[H1.out];decide),if_neg (by rw[H2.out];decide),if_pos hx])
    have hx' : (x3 != 0)=true:=by simpa using hx
    clear hx EV2
    go_wp2
    go_ret
    exact⟨by rw[E.out];rfl,HB5.out⟩
  ·have z1:=h1 (by omega)
   have z2:=h2 (by omega);have z3:=h3 (by omega)
   have E:=mh (show V=if m1=false∨m2=false then 67 else if un<1∨100000<un∨wd<0∨200<wd then 2 else 0 from by
    rw[EV2.out,if_neg (by rw[z1];decide),if_neg (by rw[z2];decide),if_neg (by rw[z3];decide)])
   clear h1 h2 h3 hk z1 z2 z3 EV2 G0 G1 G2;rw[show((3:Nat):Int)=3 from rfl]
   cases m1
   ·have E2:=mh (show V=67 from by rw[E.out,if_pos (.inl rfl)])
    clear E
    go_wp2_with (go_at_call 51;(with_reducible refine cmo (MO1.out _) ?_);rintro e w6 ⟨rfl,rfl⟩)
    go_ret
    exact⟨by rw[E2.out];rfl,HB5.out⟩
   cases m2
   ·have E2:=mh (show V=67 from by rw[E.out,if_pos (.inr rfl)])
    clear E
    go_wp2_with (first|(go_at_call 51;(with_reducible refine cmo (MO1.out _) ?_);rintro e w6 ⟨rfl,rfl⟩)|(go_at_call 51;(with_reducible refine cmo (MO2.out _) ?_);rintro e w7 ⟨rfl,rfl⟩)|fail)
    go_ret
    exact⟨by rw[E2.out];rfl,HB5.out⟩
   have E1:=mh (show V=if un<1∨100000<un∨wd<0∨200<wd then 2 else 0 from by rw[E.out,if_neg (by decide)]);clear E
   by_cases u1:un<1
   ·have E2:=mh (show V=2 from by rw[E1.out,if_pos (.inl u1)])
    clear E1
    go_wp2_with (first|(go_at_call 51;(with_reducible refine cmo (MO1.out _) ?_);rintro e w6 ⟨rfl,rfl⟩)|(go_at_call 51;(with_reducible refine cmo (MO2.out _) ?_);rintro e w7 ⟨rfl,rfl⟩)|fail)
    go_ret
    exact⟨by rw[E2.out];rfl,HB5.out⟩
   by_cases u2:100000<un
   ·have E2:=mh (show V=2 from by rw[E1.out,if_pos (.inr (.inl u2))])
    clear E1
    go_wp2_with (first|(go_at_call 51;(with_reducible refine cmo (MO1.out _) ?_);rintro e w6 ⟨rfl,rfl⟩)|(go_at_call 51;(with_reducible refine cmo (MO2.out _) ?_);rintro e w7 ⟨rfl,rfl⟩)|fail)
    go_ret
    exact⟨by rw[E2.out];rfl,HB5.out⟩
   by_cases u3:wd<0
   ·have E2:=mh (show V=2 from by rw[E1.out,if_pos (.inr (.inr (.inl u3)))])
    clear E1
    go_wp2_with (first|(go_at_call 51;(with_reducible refine cmo (MO1.out _) ?_);rintro e w6 ⟨rfl,rfl⟩)|(go_at_call 51;(with_reducible refine cmo (MO2.out _) ?_);rintro e w7 ⟨rfl,rfl⟩)|fail)
    go_ret
    exact⟨by rw[E2.out];rfl,HB5.out⟩
   by_cases u4:200<wd
   ·have E2:=mh (show V=2 from by rw[E1.out,if_pos (.inr (.inr (.inr u4)))])
    clear E1
    go_wp2_with (first|(go_at_call 51;(with_reducible refine cmo (MO1.out _) ?_);rintro e w6 ⟨rfl,rfl⟩)|(go_at_call 51;(with_reducible refine cmo (MO2.out _) ?_);rintro e w7 ⟨rfl,rfl⟩)|fail)
    go_ret
    exact⟨by rw[E2.out];rfl,HB5.out⟩
   ·have E2:=mh (show V=0 from by rw[E1.out,if_neg (by omega)])
    clear E1
    go_wp2_with (first|(go_at_call 51;(with_reducible refine cmo (MO1.out _) ?_);rintro e w6 ⟨rfl,rfl⟩)|(go_at_call 51;(with_reducible refine cmo (MO2.out _) ?_);rintro e w7 ⟨rfl,rfl⟩)|fail)
    go_ret
    exact⟨by rw[E2.out];rfl,HB5.out⟩
end Go.Proofs.YtefcalgjnkigjaaGreat
