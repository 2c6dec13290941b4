/- Packed. -/
import Derived.Test.YtljibgchickcpaaGreatDoorC20
set_option maxRecDepth 100000
set_option maxHeartbeats 4000000
open Go.Value renaming int → I
open Go.IntKind renaming i64 → O
namespace Go.Proofs.YtljibgchickcpaaGreatDoor
open Go.RowKit Sc As Dn
theorem award35_any (a:Awd)(farm:Int)(w:World):Calls Tryz.prog 32 #[.agg #[I O a.farm,I O a.scheme,I O a.decl,I O a.det,I O a.paid,I O a.rated,I O a.timely,I O a.capped,I O a.due],I O farm] w (BoolG (awB a farm) w):=by
 obtain⟨a1,a2,a3,a4,a5,a6,a7,a8,a9⟩:=a;unfold awB;simp only;have B1:=mh (balloc mle (brf w.heap.size w) (.cells #[I O a1,I O a2,I O a3,I O a4,I O a5,I O a6,I O a7,I O a8,I O a9] 78));have B2:=mh (balloc mle B1.out (.cells #[I O a3,I O a4,I O a5] 3));have B3:=mh (balloc mle B2.out (.cells #[I O a6,I O a7,I O a8,I O a9] 3));have I1:=mh (fun (W:World)=>in35_any a2 0 15 W)
 have F1:=mh (show Calls Tryz.prog 60 #[I O 268435456,.slice (some ⟨w.heap.size+1,0,none⟩) 3 3] ((w.alloc (.cells #[I O a1,I O a2,I O a3,I O a4,I O a5,I O a6,I O a7,I O a8,I O a9] 78)).alloc (.cells #[I O a3,I O a4,I O a5] 3)) (fun e w' => e = .returned (.bool (fallB 268435456 [a3,a4,a5]))∧((w.alloc (.cells #[I O a1,I O a2,I O a3,I O a4,I O a5,I O a6,I O a7,I O a8,I O a9] 78)).alloc (.cells #[I O a3,I O a4,I O a5] 3))=w') from by
  have:=falling35_any 268435456 (some ⟨(w.alloc (.cells #[I O a1,I O a2,I O a3,I O a4,I O a5,I O a6,I O a7,I O a8,I O a9] 78)).heap.size,0,none⟩) [a3,a4,a5] 3 ((w.alloc (.cells #[I O a1,I O a2,I O a3,I O a4,I O a5,I O a6,I O a7,I O a8,I O a9] 78)).alloc (.cells #[I O a3,I O a4,I O a5] 3)) (Recs.lit (S:=SI) (w.alloc (.cells #[I O a1,I O a2,I O a3,I O a4,I O a5,I O a6,I O a7,I O a8,I O a9] 78)) _ [a3,a4,a5] (by show 3≤_;unfold maxLen;omega)).ints;rw[show(w.alloc (.cells #[I O a1,I O a2,I O a3,I O a4,I O a5,I O a6,I O a7,I O a8,I O a9] 78)).heap.size=w.heap.size+1 from by simp]at this
  exact this)
 have F2:=mh (show Calls Tryz.prog 60 #[I O 68719476736,.slice (some ⟨w.heap.size+1+1,0,none⟩) 4 4] (((w.alloc (.cells #[I O a1,I O a2,I O a3,I O a4,I O a5,I O a6,I O a7,I O a8,I O a9] 78)).alloc (.cells #[I O a3,I O a4,I O a5] 3)).alloc (.cells #[I O a6,I O a7,I O a8,I O a9] 3)) (fun e w' => e = .returned (.bool (fallB 68719476736 [a6,a7,a8,a9]))∧(((w.alloc (.cells #[I O a1,I O a2,I O a3,I O a4,I O a5,I O a6,I O a7,I O a8,I O a9] 78)).alloc (.cells #[I O a3,I O a4,I O a5] 3)).alloc (.cells #[I O a6,I O a7,I O a8,I O a9] 3))=w') from by
  have:=falling35_any 68719476736 (some ⟨((w.alloc (.cells #[I O a1,I O a2,I O a3,I O a4,I O a5,I O a6,I O a7,I O a8,I O a9] 78)).alloc (.cells #[I O a3,I O a4,I O a5] 3)).heap.size,0,none⟩) [a6,a7,a8,a9] 4 (((w.alloc (.cells #[I O a1,I O a2,I O a3,I O a4,I O a5,I O a6,I O a7,I O a8,I O a9] 78)).alloc (.cells #[I O a3,I O a4,I O a5] 3)).alloc (.cells #[I O a6,I O a7,I O a8,I O a9] 3)) (Recs.lit (S:=SI) ((w.alloc (.cells #[I O a1,I O a2,I O a3,I O a4,I O a5,I O a6,I O a7,I O a8,I O a9] 78)).alloc (.cells #[I O a3,I O a4,I O a5] 3)) _ [a6,a7,a8,a9] (by show 4≤_;unfold maxLen;omega)).ints;rw[show((w.alloc (.cells #[I O a1,I O a2,I O a3,I O a4,I O a5,I O a6,I O a7,I O a8,I O a9] 78)).alloc (.cells #[I O a3,I O a4,I O a5] 3)).heap.size=w.heap.size+1+1 from by simp]at this
  exact this)
 by_cases h1:a1=farm
 rotate_left
 ·have h1b:(a1==farm)=false:=by simpa using h1
  rw[dqf h1];clear h1
  go_enter Tryz.func32,Tryz.ntmps32
  go_wp2_with fail
  go_ret
  exact⟨rfl,B1.out⟩
 subst h1;rw[dqt rfl]
 cases e1:inR a2 0 15
 ·rw[e1]at I1
  clear e1
  go_enter Tryz.func32,Tryz.ntmps32
  go_wp2_with (first|(go_at_call 56;(with_reducible refine cmo (I1.out _) ?_);rintro e w1 ⟨rfl,rfl⟩)|(go_at_call 60;(first|(with_reducible refine cmo F1.out ?_)|(with_reducible refine cmo F2.out ?_));rintro e w1 ⟨rfl,rfl⟩)|fail)
  go_ret
  exact⟨rfl,B1.out⟩
 rw[e1]at I1;clear e1;obtain⟨b3,e3⟩:∃b,fallB 268435456 [a3,a4,a5]=b:=⟨_,rfl⟩;obtain⟨b4,e4⟩:∃b,fallB 68719476736 [a6,a7,a8,a9]=b:=⟨_,rfl⟩;rw[e3]at F1 ⊢;rw[e4]at F2 ⊢;clear e3 e4
 cases b3
 ·go_enter Tryz.func32,Tryz.ntmps32
  go_wp2_with (first|(go_at_call 56;(with_reducible refine cmo (I1.out _) ?_);rintro e w1 ⟨rfl,rfl⟩)|(go_at_call 60;(first|(with_reducible refine cmo F1.out ?_)|(with_reducible refine cmo F2.out ?_));rintro e w1 ⟨rfl,rfl⟩)|fail)
  go_ret
  exact⟨rfl,B2.out⟩
 cases b4
 all_goals
  go_enter Tryz.func32,Tryz.ntmps32
  go_wp2_with (first|(go_at_call 56;(with_reducible refine cmo (I1.out _) ?_);rintro e w1 ⟨rfl,rfl⟩)|(go_at_call 60;(first|(with_reducible refine cmo F1.out ?_)|(with_reducible refine cmo F2.out ?_));rintro e w1 ⟨rfl,rfl⟩)|fail)
  go_ret
  exact⟨rfl,B3.out⟩
theorem rs1_any (a:Awd)(rb:Nat)(n:Int)(w:World)(hc:w.cell? ⟨rb,1,none⟩=some (I O n))(hl:rb<w.heap.size) :
  Calls Tryz.prog 59 #[.agg #[I O a.farm,I O a.scheme,I O a.decl,I O a.det,I O a.paid,I O a.rated,I O a.timely,I O a.capped,I O a.due],.pointer (some ⟨rb,0,none⟩)] w fun e w' => e = .returned (.bool (a.scheme==n))∧Below w.heap.size w w' :=by
 obtain⟨a1,a2,a3,a4,a5,a6,a7,a8,a9⟩:=a;simp only
 go_enter Tryz.func59,Tryz.ntmps59
 go_wp2
 go_ret
 exact⟨rfl,(brf _ _).alloc mle _⟩
def Dn.sFrom (A:List Awd) (n i:Int):Prop:=(i = -1∧(A.any fun a=>decide (a.scheme=n))=false)∨(0≤i∧(A.any fun a=>decide (a.scheme=n))=true)
def IdxS (A:List Awd) (n:Int) (w:World) (e:Ending) (w' : World):Prop:=∃i,e = .returned (I O i)∧sFrom A n i∧Below w.heap.size w w'
theorem idxs_any (p:Option Addr)(A:List Awd)(cap rb:Nat)(n:Int)(w:World)(h:Recs SA w p A)(hc:w.cell? ⟨rb,1,none⟩=some (I O n))(hl:rb<w.heap.size) :
  Calls Tryz.prog 87 #[.slice p A.length cap,.func (.func 59) #[] #[.pointer (some ⟨rb,0,none⟩)]] w (IdxS A n w):=by
 have hn:=h.len;have H:=mh h;have HC:=mh hc;clear h hc
 go_enter Tryz.func87,Tryz.ntmps87
 go_wp2
 go_loopw [8] (fun i wr=>∃k:Nat,k≤A.length∧i=I O k∧((A.take k).any fun a=>decide (a.scheme=n))=false∧Below w.heap.size w wr) (fun i _=>A.length - (intOf i).toNat)
 case atStart=>exact⟨0,Nat.zero_le _,rfl,rfl,brf _ _⟩
 case round =>
  obtain⟨k,hk,rfl,hall,hb⟩:=hrel;have HA:=mh hall;have HB:=mh hb;have hsz:=hb.size
  by_cases hlt:k<A.length
  ·obtain⟨b,off,e,hbl,⟨c0,c1,c2,c3,c4,c5,c6,c7,c8⟩⟩:=SA_at (H.out.below hb) hlt
   cases e
   have hnc:=(hb.cell (p:=⟨rb,1,none⟩) hl).trans HC.out;have hnl:rb<wr.heap.size:=by omega
   have CE:=mh (rs1_any A[k] rb n wr hnc hnl)
   have ST:=mh (show((A.take (k+1)).any fun a=>decide (a.scheme=n))=(A[k].scheme==n) from by
    rw[tsg hlt,List.any_append,hall];simp;first|rfl|(by_cases h:A[k].scheme=n<;>simp[h]))
   have MEM:=mh (List.getElem_mem hlt);have hk0:(0:Int)≤(k:Int):=inn _;have hk1:(k:Int)<(A.length:Int):=by omega
   obtain⟨x,ex⟩:∃x,A[k]=x:=⟨_,rfl⟩;rw[ex]at c0 c1 c2 c3 c4 c5 c6 c7 c8 CE ST MEM;clear hall hb hnc ex
   cases hz:(x.scheme==n)
   ·rw[hz]at CE ST
    go_wp2_with (go_at_call 59;(with_reducible refine cmo CE.out ?_);rintro e w1 ⟨rfl,hb1⟩)
    go_roundw
    case rel=>exact⟨k+1,by omega,by go_num,ST.out,bstep mle HB.out hb1⟩
    case measure=>simp[intOf];omega
   ·have HN:=mh (show(A.any fun a=>decide (a.scheme=n))=true from List.any_eq_true.2 ⟨x,MEM.out,by simpa using hz⟩)
    rw[hz]at CE
    go_wp2_with (go_at_call 59;(with_reducible refine cmo CE.out ?_);rintro e w1 ⟨rfl,hb1⟩)
    go_ret
    exact⟨_,rfl,.inr ⟨hk0,HN.out⟩,bstep mle HB.out hb1⟩
  ·obtain rfl:k=A.length:=by omega
   rw[List.take_length]at HA;clear hall hb
   go_wp2
   go_ret
   exact⟨_,rfl,.inl ⟨rfl,HA.out⟩,HB.out⟩
theorem has35_any (p:Option Addr)(A:List Awd)(cap rb:Nat)(n:Int)(w:World)(h:Recs SA w p A)(hc:w.cell? ⟨rb,1,none⟩=some (I O n))(hl:rb<w.heap.size) :
  Calls Tryz.prog 58 #[.slice p A.length cap,.func (.func 59) #[] #[.pointer (some ⟨rb,0,none⟩)]] w (BoolG (A.any fun a=>decide (a.scheme=n)) w):=by
 have IX:=mh (idxs_any p A cap rb n w h hc hl);clear h hc;obtain⟨b,eb⟩:∃b,(A.any fun a=>decide (a.scheme=n))=b:=⟨_,rfl⟩;rw[eb];have EB:=mh eb;clear eb
 go_enter Tryz.func58,Tryz.ntmps58
 go_wp2_with (go_at_call 87;(with_reducible refine cmo IX.out ?_);rintro e w1 ⟨i,rfl,hi,hb1⟩;have hd:decide (0≤i)=b:=(by rcases hi with⟨rfl,h⟩|⟨h,h2⟩;(· rw[EB.out]at h;rw[h];rfl);(· rw[EB.out]at h2;rw[h2];exact dqt h));clear hi)
 go_ret
 exact⟨by first|rfl|(rw[← hd];rfl),hb1⟩
end Go.Proofs.YtljibgchickcpaaGreatDoor
