/- Packed. -/
import Derived.Test.YtbcmabolkkfgfaaGreatDoorQ6
set_option maxRecDepth 100000
set_option maxHeartbeats 8000000
open Go.Value renaming int → I
open Go.IntKind renaming i64 → O
namespace Go.Proofs.YtbcmabolkkfgfaaGreatDoor
open Go.RowKit Cr
theorem bit0:∀m,m<32→(bits .and .i64 ((m:Nat):Int) 1==1)=decide (m / 2 ^ 0 % 2=1):=by decide +kernel
theorem bit1:∀m,m<32→(bits .and .i64 (((m:Nat):Int) / 2) 1==1)=decide (m / 2 ^ 1 % 2=1):=by decide +kernel
theorem bit2:∀m,m<32→(bits .and .i64 (((m:Nat):Int) / 4) 1==1)=decide (m / 2 ^ 2 % 2=1):=by decide +kernel
theorem bit3:∀m,m<32→(bits .and .i64 (((m:Nat):Int) / 8) 1==1)=decide (m / 2 ^ 3 % 2=1):=by decide +kernel
theorem bit4:∀m,m<32→(bits .and .i64 (((m:Nat):Int) / 16) 1==1)=decide (m / 2 ^ 4 % 2=1):=by decide +kernel
theorem enc112:Utf8.encode 112=⟨#[112]⟩:=by decide +kernel
theorem enc103:Utf8.encode 103=⟨#[103]⟩:=by decide +kernel
theorem enc99:Utf8.encode 99=⟨#[99]⟩:=by decide +kernel
theorem enc102:Utf8.encode 102=⟨#[102]⟩:=by decide +kernel
theorem enc108:Utf8.encode 108=⟨#[108]⟩:=by decide +kernel
theorem mkTo_len (m:Nat):∀k,(mkTo m k).length≤k
 | 0=>by simp[mkTo]
 | k+1=>by
   have ih:=mkTo_len m k;rw[mkTo_succ,lap]
   split<;>simp<;>omega
theorem Lib.mk_append (x y:List UInt8):(⟨x.toArray⟩:ByteArray)++⟨y.toArray⟩=⟨(x++y).toArray⟩:=ByteArray.mk_append_mk x y
def OrGive (x y:ByteArray) (w:World) (e:Ending) (w' : World):Prop:=e = .returned (.string (if x.toList = [] then y else x))∧w=w'
theorem orstr_any (x y:ByteArray)(b c:Nat)(w:World)(h0:w.cell? ⟨b,0,none⟩=some (.string x))(h1:w.cell? ⟨b,1,none⟩=some (.string y))(hy:¬y.toList = []) :
  Calls Tryz.prog 158 #[.slice (some ⟨b,0,none⟩) 2 c] w (OrGive x y w):=by
 have hyb:(y.toList == [])=false:=by simpa using hy
 have hye:y.toList.isEmpty=false:=by cases h:y.toList with|nil=>exact absurd h hy|cons a r=>rfl
 by_cases hx:x.toList = []
 ·have HF:=mh (show OrGive x y w (.returned (.string y)) w from⟨by rw[if_pos hx],rfl⟩)
  have hxe:x.toList.isEmpty=true:=by rw[hx];rfl
  go_enter Tryz.func158,Tryz.ntmps158
  go_wp2
  refine wp_loop_rounds 3 ?_
  rw[rounds_succ]
  go_wp2
  rw[rounds_succ]
  go_wp2
  go_ret
  exact HF.out
 ·have HF:=mh (show OrGive x y w (.returned (.string x)) w from⟨by rw[if_neg hx],rfl⟩)
  have hxe:x.toList.isEmpty=false:=by cases h:x.toList with|nil=>exact absurd h hx|cons a r=>rfl
  go_enter Tryz.func158,Tryz.ntmps158
  go_wp2
  refine wp_loop_rounds 3 ?_
  rw[rounds_succ]
  go_wp2
  go_ret
  exact HF.out
def StrGive (l:List UInt8) (w:World) (e:Ending) (w' : World):Prop:=e = .returned (.string ⟨l.toArray⟩)∧Below w.heap.size w w'
theorem marks_any (m:Nat)(hm:m<32)(w:World):Calls Tryz.prog 138 #[I O (m:Int)] w (StrGive (mword m) w):=by
 go_enter Tryz.func138,Tryz.ntmps138
 go_wp2
 go_loopw [3] (fun out wr=>∃k:Nat,k≤5∧wr=w.iter ⟨#[112,103,99,102,108]⟩ k∧out = .string ⟨(mkTo m k).toArray⟩) (fun _ wr=>5 - wr.iterPos w.heap.size)
 case atStart=>exact⟨0,Nat.zero_le _,rfl,rfl⟩
 case round =>
  obtain⟨k,hk,rfl,rfl⟩:=hrel;obtain⟨S,eS⟩:∃S:ByteArray,(⟨#[112,103,99,102,108]⟩:ByteArray)=S:=⟨_,rfl⟩;obtain⟨T,eT⟩:∃T:ByteArray,(⟨(mkTo m k).toArray⟩:ByteArray)=T:=⟨_,rfl⟩;have hTz:T.size≤5:=by rw[← size_len,← eT];exact Nat.le_trans (mkTo_len m k) hk
  rw[eT]
  by_cases hlt:k<5
  ·match k,hlt with
   | 0,_ =>
     have hnx:∀ty,(Instr.next (.pointer (some ⟨w.heap.size,0,none⟩)) true ty).run Tryz.prog (w.iter S 0) = .ok (.tuple #[.bool true,I O 0,.int .i32 112]) (w.iter S 1):=fun ty=>eS▸run_next_ascii w ⟨#[112,103,99,102,108]⟩ 0 ty (by decide) (by decide)
     have hsn:=mkTo_succ m 0;have hbit:=bit0 m hm;have he:=enc112;have ES:=mh eS
     cases hd:decide (m / 2 ^ 0 % 2=1) with
     | true =>
       have HR:=mh (show(T++(⟨#[112]⟩:ByteArray))=(⟨(mkTo m 1).toArray⟩:ByteArray) by
        rw[hsn,if_pos (by simpa using hd),← eT,Lib.mk_append];rfl)
       rw[hd]at hbit;clear eT hsn hd;rw[eS];clear eS
       go_wp2
       go_roundw
       case rel=>exact⟨1,by omega,by first|rfl|rw[ES.out],by rw[HR.out]⟩
       case measure=>simp[World.iterPos_iter]
     | false =>
       have HR:=mh (show T=(⟨(mkTo m 1).toArray⟩:ByteArray) by
        rw[hsn,if_neg (by simpa using hd),← eT,List.append_nil])
       rw[hd]at hbit;clear eT hsn hd;rw[eS];clear eS
       go_wp2
       go_roundw
       case rel=>exact⟨1,by omega,by first|rfl|rw[ES.out],by rw[HR.out]⟩
       case measure=>simp[World.iterPos_iter]
   | 1,_ =>
     have hnx:∀ty,(Instr.next (.pointer (some ⟨w.heap.size,0,none⟩)) true ty).run Tryz.prog (w.iter S 1) = .ok (.tuple #[.bool true,I O 1,.int .i32 103]) (w.iter S 2):=fun ty=>eS▸run_next_ascii w ⟨#[112,103,99,102,108]⟩ 1 ty (by decide) (by decide)
     have hsn:=mkTo_succ m 1;have hbit:=bit1 m hm;have he:=enc103;have ES:=mh eS
     cases hd:decide (m / 2 ^ 1 % 2=1) with
     | true =>
       have HR:=mh (show(T++(⟨#[103]⟩:ByteArray))=(⟨(mkTo m 2).toArray⟩:ByteArray) by
        rw[hsn,if_pos (by simpa using hd),← eT,Lib.mk_append];rfl)
       rw[hd]at hbit;clear eT hsn hd;rw[eS];clear eS
       go_wp2
       go_roundw
       case rel=>exact⟨2,by omega,by first|rfl|rw[ES.out],by rw[HR.out]⟩
       case measure=>simp[World.iterPos_iter]
     | false =>
       have HR:=mh (show T=(⟨(mkTo m 2).toArray⟩:ByteArray) by
        rw[hsn,if_neg (by simpa using hd),← eT,List.append_nil])
       rw[hd]at hbit;clear eT hsn hd;rw[eS];clear eS
       go_wp2
       go_roundw
       case rel=>exact⟨2,by omega,by first|rfl|rw[ES.out],by rw[HR.out]⟩
       case measure=>simp[World.iterPos_iter]
   | 2,_ =>
     have hnx:∀ty,(Instr.next (.pointer (some ⟨w.heap.size,0,none⟩)) true ty).run Tryz.prog (w.iter S 2) = .ok (.tuple #[.bool true,I O 2,.int .i32 99]) (w.iter S 3):=fun ty=>eS▸run_next_ascii w ⟨#[112,103,99,102,108]⟩ 2 ty (by decide) (by decide)
     have hsn:=mkTo_succ m 2;have hbit:=bit2 m hm;have he:=enc99;have ES:=mh eS
     cases hd:decide (m / 2 ^ 2 % 2=1) with
     | true =>
       have HR:=mh (show(T++(⟨#[99]⟩:ByteArray))=(⟨(mkTo m 3).toArray⟩:ByteArray) by
        rw[hsn,if_pos (by simpa using hd),← eT,Lib.mk_append];rfl)
       rw[hd]at hbit;clear eT hsn hd;rw[eS];clear eS
       go_wp2
       go_roundw
       case rel=>exact⟨3,by omega,by first|rfl|rw[ES.out],by rw[HR.out]⟩
       case measure=>simp[World.iterPos_iter]
     | false =>
       have HR:=mh (show T=(⟨(mkTo m 3).toArray⟩:ByteArray) by
        rw[hsn,if_neg (by simpa using hd),← eT,List.append_nil])
       rw[hd]at hbit;clear eT hsn hd;rw[eS];clear eS
       go_wp2
       go_roundw
       case rel=>exact⟨3,by omega,by first|rfl|rw[ES.out],by rw[HR.out]⟩
       case measure=>simp[World.iterPos_iter]
   | 3,_ =>
     have hnx:∀ty,(Instr.next (.pointer (some ⟨w.heap.size,0,none⟩)) true ty).run Tryz.prog (w.iter S 3) = .ok (.tuple #[.bool true,I O 3,.int .i32 102]) (w.iter S 4):=fun ty=>eS▸run_next_ascii w ⟨#[112,103,99,102,108]⟩ 3 ty (by decide) (by decide)
     have hsn:=mkTo_succ m 3;have hbit:=bit3 m hm;have he:=enc102;have ES:=mh eS
     cases hd:decide (m / 2 ^ 3 % 2=1) with
     | true =>
       have HR:=mh (show(T++(⟨#[102]⟩:ByteArray))=(⟨(mkTo m 4).toArray⟩:ByteArray) by
        rw[hsn,if_pos (by simpa using hd),← eT,Lib.mk_append];rfl)
       rw[hd]at hbit;clear eT hsn hd;rw[eS];clear eS
       go_wp2
       go_roundw
       case rel=>exact⟨4,by omega,by first|rfl|rw[ES.out],by rw[HR.out]⟩
       case measure=>simp[World.iterPos_iter]
     | false =>
       have HR:=mh (show T=(⟨(mkTo m 4).toArray⟩:ByteArray) by
        rw[hsn,if_neg (by simpa using hd),← eT,List.append_nil])
       rw[hd]at hbit;clear eT hsn hd;rw[eS];clear eS
       go_wp2
       go_roundw
       case rel=>exact⟨4,by omega,by first|rfl|rw[ES.out],by rw[HR.out]⟩
       case measure=>simp[World.iterPos_iter]
   | 4,_ =>
     have hnx:∀ty,(Instr.next (.pointer (some ⟨w.heap.size,0,none⟩)) true ty).run Tryz.prog (w.iter S 4) = .ok (.tuple #[.bool true,I O 4,.int .i32 108]) (w.iter S 5):=fun ty=>eS▸run_next_ascii w ⟨#[112,103,99,102,108]⟩ 4 ty (by decide) (by decide)
     have hsn:=mkTo_succ m 4;have hbit:=bit4 m hm;have he:=enc108;have ES:=mh eS
     cases hd:decide (m / 2 ^ 4 % 2=1) with
     | true =>
       have HR:=mh (show(T++(⟨#[108]⟩:ByteArray))=(⟨(mkTo m 5).toArray⟩:ByteArray) by
        rw[hsn,if_pos (by simpa using hd),← eT,Lib.mk_append];rfl)
       rw[hd]at hbit;clear eT hsn hd;rw[eS];clear eS
       go_wp2
       go_roundw
       case rel=>exact⟨5,by omega,by first|rfl|rw[ES.out],by rw[HR.out]⟩
       case measure=>simp[World.iterPos_iter]
     | false =>
       have HR:=mh (show T=(⟨(mkTo m 5).toArray⟩:ByteArray) by
        rw[hsn,if_neg (by simpa using hd),← eT,List.append_nil])
       rw[hd]at hbit;clear eT hsn hd;rw[eS];clear eS
       go_wp2
       go_roundw
       case rel=>exact⟨5,by omega,by first|rfl|rw[ES.out],by rw[HR.out]⟩
       case measure=>simp[World.iterPos_iter]
   | k+5,h=>exact absurd h (by omega)
  ·obtain rfl:k=5:=by omega
   have hnx:∀ty,(Instr.next (.pointer (some ⟨w.heap.size,0,none⟩)) true ty).run Tryz.prog (w.iter S 5) = .ok (.tuple #[.bool false]) (w.iter S 5):=fun ty=>eS▸run_next_end w ⟨#[112,103,99,102,108]⟩ 5 ty (by decide)
   have HF:=mh (show(if T.toList = [] then (⟨#[45]⟩:ByteArray) else T)=⟨(mword m).toArray⟩ by
    rw[ByteArray.toList_eq,← eT];unfold mword
    by_cases h:mkTo m 5 = []
    ·rw[if_pos h,if_pos h]
    ·rw[if_neg h,if_neg h])
   have ES:=mh eS
   have OC:=mh (fun (W:World)=>show Calls Tryz.prog 158 #[.slice (some ⟨W.heap.size,0,none⟩) 2 2] (W.alloc (.cells #[.string T,.string ⟨#[45]⟩] 9)) (fun e w' => e = .returned (.string ⟨(mword m).toArray⟩)∧(W.alloc (.cells #[.string T,.string ⟨#[45]⟩] 9))=w') by
    have:=orstr_any T ⟨#[45]⟩ W.heap.size 2 (W.alloc (.cells #[.string T,.string ⟨#[45]⟩] 9)) (cwn W _ _ 0) (cwn W _ _ 1) (by rw[ByteArray.toList_eq];simp);unfold OrGive at this;rw[HF.out]at this
    exact this)
   have HBW:=mh (show Below w.heap.size w ((w.iter S 5).alloc (.cells #[.string T,.string ⟨#[45]⟩] 9)) from((brf w.heap.size w).alloc mle _).alloc (by simp) _);rw[eS];clear eS eT
   go_wp2_with fail
   (with_reducible refine cmo (OC.out _) ?_);rintro e w1 ⟨rfl,rfl⟩
   go_wp2
   go_ret
   exact⟨rfl,HBW.out⟩
namespace Cr
open Go.Lib
theorem ba_ext {a b:ByteArray}(h:a.data.toList=b.data.toList):a=b:=by
 cases a with|mk a=>cases b with|mk b=>simp at h;rw[h]
end Cr
theorem ext112:(⟨#[112,103,99,102,108]⟩:ByteArray).extract 0 1=⟨#[112]⟩:=by decide +kernel
theorem ext103:(⟨#[112,103,99,102,108]⟩:ByteArray).extract 1 2=⟨#[103]⟩:=by decide +kernel
theorem ext99:(⟨#[112,103,99,102,108]⟩:ByteArray).extract 2 3=⟨#[99]⟩:=by decide +kernel
theorem ext102:(⟨#[112,103,99,102,108]⟩:ByteArray).extract 3 4=⟨#[102]⟩:=by decide +kernel
theorem ext108:(⟨#[112,103,99,102,108]⟩:ByteArray).extract 4 5=⟨#[108]⟩:=by decide +kernel
theorem refmarks_any (m:Nat)(hm:m<32)(w:World):Calls Tryz.prog 100 #[I O (m:Int)] w (StrGive (mword m) w):=by
 go_enter Tryz.func100,Tryz.ntmps100
 go_wp2
 go_loop [3,4] (fun out i=>∃k:Nat,k≤5∧i=I O k∧out = .string ⟨(mkTo m k).toArray⟩) (fun _ i=>5 - (intOf i).toNat)
 case atStart=>exact⟨0,Nat.zero_le _,rfl,rfl⟩
 case round =>
  obtain⟨k,hk,rfl,rfl⟩:=hrel;obtain⟨T,eT⟩:∃T:ByteArray,(⟨(mkTo m k).toArray⟩:ByteArray)=T:=⟨_,rfl⟩;have hTz:T.size≤5:=by rw[← size_len,← eT];exact Nat.le_trans (mkTo_len m k) hk
  rw[eT]
  match k,hk with
  | 0,_ =>
    have hsn:=mkTo_succ m 0;have hbit:=bit0 m hm;have he:=ext112
    cases hd:decide (m / 2 ^ 0 % 2=1) with
    | true =>
      have HR:=mh (show(T++(⟨#[112]⟩:ByteArray))=(⟨(mkTo m 1).toArray⟩:ByteArray) by
       rw[hsn,if_pos (by simpa using hd),← eT,Lib.mk_append];rfl)
      rw[hd]at hbit;clear eT hsn hd
      go_wp2
      go_round
      case rel=>exact⟨1,by omega,rfl,by rw[HR.out]⟩
      case measure=>simp[intOf]
    | false =>
      have HR:=mh (show T=(⟨(mkTo m 1).toArray⟩:ByteArray) by
       rw[hsn,if_neg (by simpa using hd),← eT,List.append_nil])
      rw[hd]at hbit;clear eT hsn hd
      go_wp2
      go_round
      case rel=>exact⟨1,by omega,rfl,by rw[HR.out]⟩
      case measure=>simp[intOf]
  | 1,_ =>
    have hsn:=mkTo_succ m 1;have hbit:=bit1 m hm;have he:=ext103
    cases hd:decide (m / 2 ^ 1 % 2=1) with
    | true =>
      have HR:=mh (show(T++(⟨#[103]⟩:ByteArray))=(⟨(mkTo m 2).toArray⟩:ByteArray) by
       rw[hsn,if_pos (by simpa using hd),← eT,Lib.mk_append];rfl)
      rw[hd]at hbit;clear eT hsn hd
      go_wp2
      go_round
      case rel=>exact⟨2,by omega,rfl,by rw[HR.out]⟩
      case measure=>simp[intOf]
    | false =>
      have HR:=mh (show T=(⟨(mkTo m 2).toArray⟩:ByteArray) by
       rw[hsn,if_neg (by simpa using hd),← eT,List.append_nil])
      rw[hd]at hbit;clear eT hsn hd
      go_wp2
      go_round
      case rel=>exact⟨2,by omega,rfl,by rw[HR.out]⟩
      case measure=>simp[intOf]
  | 2,_ =>
    have hsn:=mkTo_succ m 2;have hbit:=bit2 m hm;have he:=ext99
    cases hd:decide (m / 2 ^ 2 % 2=1) with
    | true =>
      have HR:=mh (show(T++(⟨#[99]⟩:ByteArray))=(⟨(mkTo m 3).toArray⟩:ByteArray) by
       rw[hsn,if_pos (by simpa using hd),← eT,Lib.mk_append];rfl)
      rw[hd]at hbit;clear eT hsn hd
      go_wp2
      go_round
      case rel=>exact⟨3,by omega,rfl,by rw[HR.out]⟩
      case measure=>simp[intOf]
    | false =>
      have HR:=mh (show T=(⟨(mkTo m 3).toArray⟩:ByteArray) by
       rw[hsn,if_neg (by simpa using hd),← eT,List.append_nil])
      rw[hd]at hbit;clear eT hsn hd
      go_wp2
      go_round
      case rel=>exact⟨3,by omega,rfl,by rw[HR.out]⟩
      case measure=>simp[intOf]
  | 3,_ =>
    have hsn:=mkTo_succ m 3;have hbit:=bit3 m hm;have he:=ext102
    cases hd:decide (m / 2 ^ 3 % 2=1) with
    | true =>
      have HR:=mh (show(T++(⟨#[102]⟩:ByteArray))=(⟨(mkTo m 4).toArray⟩:ByteArray) by
       rw[hsn,if_pos (by simpa using hd),← eT,Lib.mk_append];rfl)
      rw[hd]at hbit;clear eT hsn hd
      go_wp2
      go_round
      case rel=>exact⟨4,by omega,rfl,by rw[HR.out]⟩
      case measure=>simp[intOf]
    | false =>
      have HR:=mh (show T=(⟨(mkTo m 4).toArray⟩:ByteArray) by
       rw[hsn,if_neg (by simpa using hd),← eT,List.append_nil])
      rw[hd]at hbit;clear eT hsn hd
      go_wp2
      go_round
      case rel=>exact⟨4,by omega,rfl,by rw[HR.out]⟩
      case measure=>simp[intOf]
  | 4,_ =>
    have hsn:=mkTo_succ m 4;have hbit:=bit4 m hm;have he:=ext108
    cases hd:decide (m / 2 ^ 4 % 2=1) with
    | true =>
      have HR:=mh (show(T++(⟨#[108]⟩:ByteArray))=(⟨(mkTo m 5).toArray⟩:ByteArray) by
       rw[hsn,if_pos (by simpa using hd),← eT,Lib.mk_append];rfl)
      rw[hd]at hbit;clear eT hsn hd
      go_wp2
      go_round
      case rel=>exact⟨5,by omega,rfl,by rw[HR.out]⟩
      case measure=>simp[intOf]
    | false =>
      have HR:=mh (show T=(⟨(mkTo m 5).toArray⟩:ByteArray) by
       rw[hsn,if_neg (by simpa using hd),← eT,List.append_nil])
      rw[hd]at hbit;clear eT hsn hd
      go_wp2
      go_round
      case rel=>exact⟨5,by omega,rfl,by rw[HR.out]⟩
      case measure=>simp[intOf]
  | 5,_ =>
    by_cases h0:mkTo m 5 = []
    ·have hT:T.toList = []:=by rw[ByteArray.toList_eq,← eT];exact h0
     have hTe:T.toList.isEmpty=true:=by rw[hT];rfl
     have HF:=mh (show(⟨#[45]⟩:ByteArray)=⟨(mword m).toArray⟩ by unfold mword;rw[if_pos h0]);clear eT h0
     go_wp2
     go_ret
     exact⟨by rw[← HF.out];rfl,brf _ _⟩
    ·have hT:¬T.toList = []:=by rw[ByteArray.toList_eq,← eT];exact h0
     have hTe:T.toList.isEmpty=false:=by cases h:T.toList with|nil=>exact absurd h hT|cons a r=>rfl
     have HF:=mh (show T=⟨(mword m).toArray⟩ by unfold mword;rw[if_neg h0,eT]);clear eT h0
     go_wp2
     go_ret
     exact⟨by rw[← HF.out];rfl,brf _ _⟩
  | k+6,h=>exact absurd h (by omega)
def unmV (s:List UInt8):Int:=match unm s with|some m=>(m:Int)|none=>0
def UnmGive (s:List UInt8) (w:World) (e:Ending) (w' : World):Prop:=e = .returned (.tuple #[I O (unmV s),.bool (unm s).isSome])∧Below w.heap.size w w'
theorem unm_at {s:List UInt8}{k:Nat}(hk:k<32)(h:mword k=s):unm s=some k:=by rw[← h];exact unm_mword hk
theorem unm_no {s:List UInt8}(h:∀j,j<32→mword j≠s):unm s=none:=by
 cases e:unm s with
 | none=>rfl
 | some m=>exact absurd (unm_some e).2 (h m (unm_some e).1)
theorem unmarks_any (s:ByteArray)(w:World):Calls Tryz.prog 131 #[.string s] w (UnmGive s.data.toList w):=by
 go_enter Tryz.func131,Tryz.ntmps131
 go_wp2
 go_loopw [4] (fun i wr=>∃k:Nat,k≤32∧i=I O k∧(∀j,j<k→mword j≠s.data.toList)∧Below w.heap.size w wr) (fun i _=>32 - (intOf i).toNat)
 case atStart=>exact⟨0,Nat.zero_le _,rfl,fun j hj=>absurd hj (Nat.not_lt_zero j),brf _ _⟩
 case round =>
  obtain⟨k,hk,rfl,hall,hb⟩:=hrel;have HA:=mh hall;have HB:=mh hb;have hk0:(0:Int)≤(k:Int):=inn _;clear hall hb
  by_cases hlt:k<32
  ·have hk1:(k:Int)<32:=by omega
   have MK:=mh (fun (W:World)=>refmarks_any k hlt W);unfold StrGive at MK
   by_cases he:mword k=s.data.toList
   ·have hu:=unm_at hlt he
    have HU:=mh (show UnmGive s.data.toList w=fun e w' => e = .returned (.tuple #[I O (k:Int),.bool true])∧Below w.heap.size w w' by unfold UnmGive unmV;rw[hu];rfl);have eS:(⟨(mword k).toArray⟩:ByteArray)=s:=ba_ext (by rw[he]);rw[eS]at MK;clear eS hu he
    go_wp2_with (first|(go_at_call 100;(with_reducible refine cmo (MK.out _) ?_);rintro e w1 ⟨rfl,hb1⟩))
    go_ret2
    rw[HU.out];exact⟨rfl,HB.out.trans (hb1.mono HB.out.size)⟩
   ·have HE:=mh he
    have hne:((⟨(mword k).toArray⟩:ByteArray).toList==s.toList)=false:=by rw[ByteArray.toList_eq,ByteArray.toList_eq];simpa using he
    obtain⟨T,eT⟩:∃T:ByteArray,(⟨(mword k).toArray⟩:ByteArray)=T:=⟨_,rfl⟩;rw[eT]at hne MK;clear eT he
    go_wp2_with (first|(go_at_call 100;(with_reducible refine cmo (MK.out _) ?_);rintro e w1 ⟨rfl,hb1⟩))
    go_roundw
    case rel=>exact⟨k+1,by omega,by go_num,fun j hj=>by
     by_cases e:j=k
     ·subst e;exact HE.out
     ·exact HA.out j (by omega),HB.out.trans (hb1.mono HB.out.size)⟩
    case measure=>simp[intOf];omega
  ·obtain rfl:k=32:=by omega
   have hu:=unm_no HA.out;have HU:=mh (show UnmGive s.data.toList w=fun e w' => e = .returned (.tuple #[I O 0,.bool false])∧Below w.heap.size w w' by unfold UnmGive unmV;rw[hu];rfl);clear hu
   go_wp2
   go_ret2
   rw[HU.out];exact⟨rfl,HB.out⟩
def BlockAt (w:World) (T:TypeId) (b:Nat) (cur:Array Value):Prop:=w.heap[b]?=some (.cells cur T (0,0))
variable {α:Type} {S:Shape α}
theorem OwnR.of_block {w:World}{T:TypeId}{B g cap:Nat}{cur:Array Value}{L:List α}(hb:BlockAt w T g cur)(hB:B≤g)(hl:L.length≤cap)(hm:cap≤maxLen)(hs:cur.size=cap*S.k)(ht:cur.toList.take (L.length*S.k)=S.flat L):OwnR S w T B (.slice (some ⟨g,0,none⟩) L.length cap) L :=
 ⟨S.flat_len L,.inr ⟨g,cap,cur,rfl,hB,hb,hl,hm,hs,ht⟩⟩
theorem OwnR.stepAll {P:Program}{T TS:TypeId}{bytes:Nat}(he:Elem S P T TS bytes){w:World}{ops:Array Oper}{o:Oper}{a:Act}{K:Act→World→Prop}{Q:Exit→Act→World→Prop}{E:Prop}(hgd:o.guard=none)(s x:Operand)
  (ho:o.op = .call { callee := .builtin .append,args:=#[s,x],argTypes:=#[TS,TS] }) (B:Nat) (v:Value) (L M:List α) (p:Option Addr) (c n:Nat) (hM:M.length=n) (hown:OwnR S w T B v L) (hsrc:Recs S w p M) (hp:p=none→c=0) (hs:a.eval s=v)
  (hx:a.eval x = .slice p n c) (hB:B≤w.heap.size) (hn:L.length+n<1073741824) (hby:bytes≤65536)
  (h:∀v' w', OwnR S w' T B v' (L++M)→Below B w w' → K (a.put o.dst v') w'):if Region.wanted o (yielded ops a.tmps)=true then Oper.wp P o a w K Q else E:=by
 subst hM;have hw:Region.wanted o (yielded ops a.tmps)=true:=by simp[Region.wanted,hgd]
 rw[if_pos hw];obtain⟨i0,z,e1,e2,e3,e4,e5⟩:=he.ex;have hb2:(L.length+M.length)*bytes≤1073741824*65536:=Nat.mul_le_mul (by omega) hby
 cases p with
 | none =>
   obtain rfl:=hp rfl;have hM:M = []:=by
    rcases hsrc.2 with h|⟨b,off,h,_⟩
    ·exact h
    ·cases h
   subst hM;have hrun:=run_append_owned_none (P:=P) (w:=w) B TS o.type T i0 S.k he.ts e1 v L.length (S.flat L) hown;unfold Oper.wp
   simp[execOp,ho,resolve,invoke,builtin,hs,hx,hrun,Result.andThen]
   exact h _ _ (by rw[List.append_nil];exact hown) (brf _ _)
 | some ad =>
   obtain⟨v', w', hr,h2,h3,h4⟩:=run_append_own (P:=P) w B TS o.type T i0 z S.k bytes he.ts e1 e2 e3 e4 e5 S.pos v L.length (S.flat L) hown ad M.length c (S.flat M) (S.flat_len M) (fun j u hu=>by
    rcases hsrc.2 with rfl|⟨b', off', hp', hl,hc⟩
    ·simp[Shape.flat]at hu
    ·cases hp'
     rw[Go.WideShapes.add_plain]
     exact hc j u hu) (S.flat_ones M) (by unfold maxLen;omega) (by omega) hB
   unfold Oper.wp execOp;simp only[ho,resolve,invoke,builtin,Sem.run_bind,Sem.run_pure,Result.andThen_ok,List.map_toArray,List.map_cons,List.map_nil,hs,hx,hr];refine h v' w' ?_ ((brf _ w).grown h3 hB fun k hk=>(World.ownsRow.lt hown k hk).1);unfold OwnR;rw[lap,S.flat_append];exact h2
end Go.Proofs.YtbcmabolkkfgfaaGreatDoor
namespace Go.Proofs.YtbcmabolkkfgfaaGreatDoor
open Go.RowKit Te
theorem OwnR.lit {α:Type}{S:Shape α}(w:World)(T:TypeId)(L:List α)(hl:L.length≤maxLen):OwnR S (w.alloc (.cells (S.flat L).toArray T)) T w.heap.size (.slice (some ⟨w.heap.size,0,none⟩) L.length L.length) L :=
 OwnR.of_block (cur:=(S.flat L).toArray) (World.alloc_heap_new _ _) mle mle hl (by simp[S.flat_len]) (by rw[List.take_of_length_le (by simp[S.flat_len])])
def TxG (ws:List ByteArray) (w:World) (e:Ending) (w' : World):Prop:=∃p c,e = .returned (.slice p ws.length c)∧OwnR SB w' 9 w.heap.size (.slice p ws.length c) ws∧Below w.heap.size w w'
theorem TxG.lit {w w1:World}(hb:Below w.heap.size w w1){ws:List ByteArray}{cs:Array Value}(h:(SB.flat ws).toArray=cs)(hl:ws.length≤100){n:Nat}(hn:ws.length=n){g:Nat}(hg:w1.heap.size=g):TxG ws w (.returned (.slice (some ⟨g,0,none⟩) n n)) (w1.alloc (.cells cs 9)):=by
 subst hg;subst h;subst hn;exact⟨_,_,rfl,(OwnR.lit w1 9 ws (by unfold maxLen;omega)).mono hb.size,balloc mle hb _⟩
theorem TxG.own {w w1:World}{v:Value}{ws:List ByteArray}(hb:Below w.heap.size w w1)(h:OwnR SB w1 9 w.heap.size v ws):TxG ws w (.returned v) w1:=by
 obtain⟨p,c,rfl, -⟩:=h.cut rfl;exact⟨p,c,rfl,h,hb⟩
theorem single_nat {m:Int}(h:single m=true):∃k:Nat,k<32∧m=(k:Int):=by
 simp only[single,Bool.or_eq_true,beq_iff_eq]at h
 rcases h with (((rfl|rfl)|rfl)|rfl)|rfl
 ·exact⟨1,by decide,rfl⟩
 ·exact⟨2,by decide,rfl⟩
 ·exact⟨4,by decide,rfl⟩
 ·exact⟨8,by decide,rfl⟩
 ·exact⟨16,by decide,rfl⟩
theorem letter_any (m:Nat)(hm:m<32)(w:World):Calls Tryz.prog 120 #[I O (m:Int)] w (StrGive (Cr.mword m) w):=by
 have MK:=mh (marks_any m hm w)
 go_enter Tryz.func120,Tryz.ntmps120
 go_wp2_with (first|(go_at_call 138;(with_reducible refine cmo MK.out ?_);rintro e w1 ⟨rfl,hb1⟩))
 go_ret
 exact⟨rfl,hb1⟩
theorem textL_len {K:List Tm}{k:Tm}(h:k∈K):(textW k).length≤(textL K).length:=by
 induction K with
 | nil=>cases h
 | cons a r ih =>
   rw[textL,lap]
   rcases List.mem_cons.1 h with rfl|h
   ·omega
   ·have:=ih h;omega
theorem textL_append (A B:List Tm):textL (A++B)=textL A++textL B:=by
 induction A with
 | nil=>simp[textL]
 | cons a r ih=>rw[List.cons_append,textL,textL,ih,List.append_assoc]
theorem textL_succ (K:List Tm)(j:Nat)(h:j<K.length):textL (K.take (j+1))=textL (K.take j)++textW K[j]:=by
 rw[tsg h,textL_append,textL,textL,List.append_nil]
theorem textL_take (K:List Tm)(j:Nat):(textL (K.take j)).length≤(textL K).length:=by
 have:=textL_append (K.take j) (K.drop j);rw[List.take_append_drop]at this;rw[this,lap];omega
theorem form_mem {K:List Tm}(h:formL K=true)(j:Nat)(hj:j<K.length):form K[j]=true:=formL_iff.1 h _ (List.getElem_mem hj)
def TextAt (Q:Nat→Prop) (d:Nat):Prop:=∀(r:RT) (t:Tm) (w:World),TV Q w d r t→form t=true→(textW t).length≤1000000→Env w →
    Calls Tryz.prog 94 #[.agg #[I O r.op,I O r.num,I O r.more,.slice r.p r.n r.c]] w (TxG ((textW t).map bs) w)
theorem text_leaf {o n m:Int}{p:Option Addr}{c:Nat}{K:List Tm}{w:World}(hE:Env w)(hf:form (.mk o n m K)=true)(ho:¬o=9∧¬o=10∧¬o=11) :
  Calls Tryz.prog 94 #[.agg #[I O o,I O n,I O m,.slice p K.length c]] w (TxG ((textW (.mk o n m K)).map bs) w):=by
 have B0:=Bx.box w ⟨o,n,m,p,K.length,c⟩ 28;simp only at B0;obtain⟨o1,o2⟩:=form_op hf;rw[form_cons,Bool.and_eq_true]at hf;have hs:=hf.1;clear hf
 by_cases h1:o=1
 ·subst h1
  have HX:=mh B0;have HT:=mh (show textW (.mk 1 n m K) = [opW 1] by rw[textW,if_pos rfl]);clear B0 hE hs o1 o2 ho
  go_enter Tryz.func94,Tryz.ntmps94
  go_wp2
  go_ret
  rw[HT.out];exact TxG.lit HX.out.below (ws := [bs (opW 1)]) rfl (by show 1≤100;omega) rfl (by simp)
 by_cases h4:o=4
 ·subst h4
  simp[selfB]at hs
  obtain⟨k,hk,rfl⟩:=single_nat hs.1.1;have HX:=mh B0;have HT:=mh (show textW (.mk 4 (k:Int) m K) = [opW 4,Cr.mword k] by rw[textW,if_neg (by decide),if_pos rfl];rfl);have LT:=mh (fun W=>letter_any k hk W);clear B0 hE hs o1 o2 ho hk
  go_enter Tryz.func94,Tryz.ntmps94
  go_wp2_with (first|(go_at_call 120;(with_reducible refine cmo (LT.out _) ?_);rintro e w1 ⟨rfl,hb1⟩))
  go_ret
  rw[HT.out];exact TxG.lit (bstep mle HX.out.below hb1) rfl (by simp) rfl (by first|rfl|simp)
 by_cases h7:o=7
 ·subst h7
  simp[selfB]at hs
  obtain⟨k,hk,rfl⟩:=single_nat hs.1.2;have hn1:=hs.1.1;have HT:=mh (show textW (.mk 7 n (k:Int) K) = [opW 7,Lib.itoa n,Cr.mword k] by rw[textW,if_neg (by decide),if_neg (by decide),if_pos rfl];rfl);have LT:=mh (fun W=>letter_any k hk W);have DE:=mh (fun (W:World) (hb:Bx w W ⟨7,n,(k:Int),p,K.length,c⟩)=>decimal_any n W (hE.below hb.below) (by omega) (by omega));have BN:=mh (fun (W W' : World) (hW:Bx w W ⟨7,n,(k:Int),p,K.length,c⟩) (hb:Below W.heap.size W W')=>show Bx w W' ⟨7,n,(k:Int),p,K.length,c⟩ from⟨bstep mle hW.below hb,⟨(hb.cell (p:=⟨w.heap.size,0,none⟩) hW.lt).trans hW.cells.c0,(hb.cell (p:=⟨w.heap.size,0+1,none⟩) hW.lt).trans hW.cells.c1,(hb.cell (p:=⟨w.heap.size,0+2,none⟩) hW.lt).trans hW.cells.c2,(hb.cell (p:=⟨w.heap.size,0+3,none⟩) hW.lt).trans hW.cells.c3⟩,nll hW.lt hb.size⟩);have KC:=mh (fun (W:World) (hW:Bx w W ⟨7,n,(k:Int),p,K.length,c⟩)=>show W.cell? ⟨w.heap.size,1,none⟩=some (I O n)∧W.cell? ⟨w.heap.size,2,none⟩=some (I O (k:Int)) from⟨hW.cells.c1,hW.cells.c2⟩);have K0:=B0;have K0d:=BN.out _ _ B0 ((brf _ _).drew);clear hE hs o1 o2 ho hk B0 hn1
  go_enter Tryz.func94,Tryz.ntmps94
  go_wp2_with fail
  go_region_held3 (fun W=>W.cell? ⟨w.heap.size,1,none⟩=some (I O n)∧W.cell? ⟨w.heap.size,2,none⟩=some (I O (k:Int)))
   (first|exact KC.out _ K0|exact KC.out _ K0d|exact KC.out _ K5|exact KC.out _ K6|exact KC.out _ (BN.out _ _ K6 ((brf _ _).alloc mle _))|fail)
   (first
    | (go_at_call 55;(with_reducible refine cmo (DE.out _ (by first|exact K0d|exact K0)) ?_);rintro e w5 ⟨rfl,hb5⟩;have K5:Bx w w5 ⟨7,n,(k:Int),p,K.length,c⟩:=(by first|exact BN.out _ _ K0d hb5|exact BN.out _ _ K0 hb5))
    | (go_at_call 120;(with_reducible refine cmo (LT.out _) ?_);rintro e w6 ⟨rfl,hb6⟩;have K6:Bx w w6 ⟨7,n,(k:Int),p,K.length,c⟩:=BN.out _ _ K5 hb6)
    | fail)
  go_wp2
  go_ret
  rw[HT.out];exact TxG.lit K6.below rfl (by simp) rfl (by first|rfl|simp)
 have HT:=mh (show textW (.mk o n m K) = [opW o,Lib.itoa n] by
  rw[textW,if_neg h1,if_neg h4,if_neg h7,if_neg ho.2.2,if_neg (by omega)])
 have hn1:0≤n∧n≤40:=by
  unfold selfB at hs
  repeat' split at hs
  all_goals first|omega|(simp at hs)|(cases hs)
  all_goals omega
 have DE:=mh (fun (W:World) (hb:Below w.heap.size w W)=>decimal_any n W (hE.below hb) (by omega) (by omega));have HX:=mh B0;have DE1:=mh (DE.out _ B0.below);have hor:o=2∨o=3∨o=5∨o=6∨o=8:=by omega
 clear B0 hE hs o1 o2 ho hn1 DE h1 h4 h7
 rcases hor with rfl|rfl|rfl|rfl|rfl
 all_goals
  go_enter Tryz.func94,Tryz.ntmps94
  go_wp2_with (first|(go_at_call 55;(with_reducible refine cmo DE1.out ?_);rintro e w1 ⟨rfl,hb1⟩))
  go_ret
  rw[HT.out];exact TxG.lit (bstep mle HX.out.below hb1) rfl (by simp) rfl (by first|rfl|simp)
theorem OwnR.src {α:Type}{S:Shape α}{w:World}{T:TypeId}{B n c:Nat}{p:Option Addr}{L:List α}(h:OwnR S w T B (.slice p n c) L):L.length=n∧Recs S w p L∧(p=none→c=0):=by
 obtain⟨p', c', e,h1, -, -, -,h2⟩:=h.cut rfl;simp only[Value.slice.injEq]at e;obtain⟨rfl,rfl,rfl⟩:=e;exact⟨rfl,h2,fun h=>(h1 h).1⟩
theorem text_any {Q:Nat→Prop}(d:Nat):TextAt Q d:=by
 induction d using Nat.strongRecOn with
 | _ d ih =>
 intro r t w h hf hl hE;obtain⟨o,n,m,p,l,c⟩:=r;obtain⟨t0,tn,tm,K⟩:=t;obtain rfl:o=t0:=h.is.op;obtain rfl:n=tn:=h.is.num;obtain rfl:m=tm:=h.is.more;have hat:TmsAt Q w d p K:=h.at_;have hlen:l=K.length:=h.is.n;simp only;subst hlen
 by_cases ho:¬o=9∧¬o=10∧¬o=11
 ·exact text_leaf hE hf ho
 have hn:=hat.len;have B0:=Bx.box w ⟨o,n,m,p,K.length,c⟩ 28;simp only at B0;rw[form_cons,Bool.and_eq_true]at hf;obtain⟨hs,hfL⟩:=hf;have HB0:=mh B0.below;have IH:=mh ih;have HE:=mh (fun (W:World) (hb:Below w.heap.size w W)=>hE.below hb);have HA:=mh hat;have HFL:=mh hfL
 by_cases h11:o=11
 ·subst h11
  simp[selfB]at hs
  obtain⟨⟨rfl,rfl⟩,hk⟩:=hs;obtain⟨k,rfl⟩:∃k,K = [k]:=by
   match K,hk with
   | [k],_=>exact⟨k,rfl⟩
  have HT:=mh (show textW (.mk 11 0 0 [k])=opW 11::textW k by
   rw[textW,if_neg (by decide),if_neg (by decide),if_neg (by decide),if_pos rfl,textL,textL,List.append_nil])
  obtain⟨e,b,off,r,rfl,rfl,hbl,hcs,hv⟩:=hat.kid (k:=0) (by simp);rw[Nat.zero_mul,Nat.add_zero]at hcs;obtain⟨c0,c1,c2,c3⟩:=hcs;have hkl:(textW k).length≤1000000:=by
   have:=hl;rw[HT.out,List.length_cons]at this;omega
  have TX:=mh (fun (W:World) (hb:Below w.heap.size w W)=>IH.out e (by omega) r k W (hv.below hb) (form_mem hfL 0 (by simp)) hkl (HE.out W hb))
  have HL:=mh (show OwnR SB (((w.alloc (.cells #[I O 11,I O 0,I O 0,.slice (some ⟨b,off,none⟩) 1 c] 28))).alloc (.cells #[.string ⟨#[110,111,116]⟩] 9)) 9 w.heap.size (.slice (some ⟨w.heap.size+1,0,none⟩) 1 1) [bs (opW 11)] by
   have:=OwnR.lit (S:=SB) ((w.alloc (.cells #[I O 11,I O 0,I O 0,.slice (some ⟨b,off,none⟩) 1 c] 28))) 9 [bs (opW 11)] (by show 1≤_;unfold maxLen;omega);rw[World.size_alloc]at this
   exact this.mono (Nat.le_succ _))
  have TX1:=mh (TX.out _ (balloc mle HB0.out (.cells #[.string ⟨#[110,111,116]⟩] 9)));have HB1:=mh (balloc mle HB0.out (.cells #[.string ⟨#[110,111,116]⟩] 9));rw[HT.out];clear TX IH HE HA HFL hat hv hE hfL h hl ho B0 ih hk
  go_enter Tryz.func94,Tryz.ntmps94
  go_wp2_with (first
   | (go_at_call 94;(with_reducible refine cmo TX1.out ?_);rintro e w1 ⟨q,cc,rfl,hO,hb1⟩;have HL1:=mh (HL.out.below hb1);have HO1:=mh hO.src.2;have HB2:=mh (bstep mle HB1.out hb1);have hsz:=hb1.size;simp only[World.size_alloc]at hsz;clear hb1 hO)
   | (at_builtin;(refine OwnR.appendAll el_str rfl (.tmp 29) (.tmp 34) rfl w.heap.size _ [bs (opW 11)] ((textW k).map bs) q cc (textW k).length (List.length_map _) HL1.out HO1.out.1 HO1.out.2 rfl rfl (by omega) (by simp;omega) (by decide) ?_);intro v2 w2 hO2 hap2)
   | fail)
  go_ret
  exact TxG.own (HB2.out.trans hap2.below) hO2
 ·have h9:o=9∨o=10:=by omega
  clear ho h11
  rcases h9 with h9|h10
  ·obtain rfl:=h9
   have HT:=mh (show textW (.mk 9 n m K)=opW 9 :: [40]::(textL K ++ [[41]]) by
    rw[textW,if_neg (by decide),if_neg (by decide),if_neg (by decide),if_neg (by decide),if_pos (by decide)])
   have hkl:(textL K).length≤1000000:=by
    have:=hl;rw[HT.out]at this;simp only[List.length_cons,lap,List.length_nil]at this;omega
   have HL:=mh (show OwnR SB ((w.alloc (.cells #[I O 9,I O n,I O m,.slice p K.length c] 28)).alloc (.cells #[.string ⟨#[97,110,100]⟩,.string ⟨#[40]⟩] 9)) 9 w.heap.size (.slice (some ⟨w.heap.size+1,0,none⟩) 2 2) ((opW 9 :: [40]::textL (K.take 0)).map bs)∧Below w.heap.size w ((w.alloc (.cells #[I O 9,I O n,I O m,.slice p K.length c] 28)).alloc (.cells #[.string ⟨#[97,110,100]⟩,.string ⟨#[40]⟩] 9)) by
    have:=OwnR.lit (S:=SB) (w.alloc (.cells #[I O 9,I O n,I O m,.slice p K.length c] 28)) 9 [bs (opW 9),bs [40]] (by show 2≤_;unfold maxLen;omega);rw[World.size_alloc]at this
    exact⟨this.mono (Nat.le_succ _),balloc mle HB0.out _⟩)
   rw[HT.out];clear h hl hE ih hat hfL B0 hs
   go_enter Tryz.func94,Tryz.ntmps94
   go_wp2
   go_loopw [4,48] (fun v i wr=>∃j:Nat,j≤K.length∧i=I O j∧OwnR SB wr 9 w.heap.size v ((opW 9 :: [40]::textL (K.take j)).map bs)∧Below w.heap.size w wr) (fun _ i _=>K.length - (intOf i).toNat)
   case atStart=>exact⟨0,Nat.zero_le _,rfl,HL.out⟩
   case round =>
    obtain⟨wo,rfl⟩:∃wo:World,wo=wr:=⟨_,rfl⟩;obtain⟨j,hj,rfl,hO,hb⟩:=hrel;have HO:=mh hO;have HB:=mh hb;have hj0:(0:Int)≤(j:Int):=inn _
    by_cases hlt:j<K.length
    ·have hj1:(j:Int)<(K.length:Int):=by omega
     obtain⟨e,b,off,k,rfl,rfl,hbl,hcs,hv⟩:=(HA.out.below hb).kid hlt;obtain⟨c0,c1,c2,c3⟩:=hcs;have hkj:=textL_len (List.getElem_mem hlt);have HS:=mh (textL_succ K j hlt);have hlj:=textL_take K (j+1);rw[HS.out,lap]at hlj;have HK:=mh (IH.out e (by omega) k K[j] _ (hv.below ((brf _ _).alloc mle (.cells #[I O k.op,I O k.num,I O k.more,.slice k.p k.n k.c] 28))) (form_mem HFL.out j hlt) (by omega) (HE.out _ (balloc mle hb _)));have HB1:=mh (balloc mle hb (.cells #[I O k.op,I O k.num,I O k.more,.slice k.p k.n k.c] 28));have HO1:=mh (hO.below ((brf _ _).alloc mle (.cells #[I O k.op,I O k.num,I O k.more,.slice k.p k.n k.c] 28)));have hsz:=hb.size;clear hv hO hb
     go_wp2_with (first
      | (go_at_call 94;(with_reducible refine cmo HK.out ?_);rintro e w1 ⟨q,cc,rfl,hO2,hb1⟩;have HO2:=mh hO2.src.2;have HB2:=mh (bstep mle HB1.out hb1);have HO3:=mh (HO1.out.below hb1);have hz1:=hb1.size;simp only[World.size_alloc]at hz1;clear hb1 hO2)
      | (at_builtin;(refine OwnR.appendAll el_str rfl (.tmp 52) (.tmp 54) rfl w.heap.size _ ((opW 9 :: [40]::textL (K.take j)).map bs) ((textW K[j]).map bs) q cc (textW K[j]).length (List.length_map _) HO3.out HO2.out.1 HO2.out.2 rfl rfl (by omega) (by simp;omega) (by decide) ?_);intro v2 w2 hO4 hap4;have HO4:=mh hO4;have HB4:=mh (HB2.out.trans hap4.below);clear hO4 hap4)
      | fail)
     go_roundw
     case rel=>exact⟨j+1,by omega,by go_num,by rw[HS.out,← List.cons_append,← List.cons_append,List.map_append];exact HO4.out,HB4.out⟩
     case measure=>simp[intOf];omega
    ·obtain rfl:j=K.length:=by omega
     rw[List.take_length]at HO;have HB1:=mh (balloc mle hb (.cells #[.string ⟨#[41]⟩] 9));have HO1:=mh (HO.out.below ((brf _ _).alloc mle (.cells #[.string ⟨#[41]⟩] 9)));have HS1:=mh (Recs.lit (S:=SB) wo 9 [bs [41]] (by show 1≤_;unfold maxLen;omega));have hsz:=hb.size;clear hO hb
     go_wp2_with (first
      | (at_builtin;(refine OwnR.appendAll el_str rfl (.tmp 57) (.tmp 58) rfl w.heap.size _ ((opW 9 :: [40]::textL K).map bs) [bs [41]] (some ⟨wo.heap.size,0,none⟩) 1 1 rfl HO1.out HS1.out (fun h=>by cases h) rfl rfl (by simp;omega) (by simp;omega) (by decide) ?_);intro v2 w2 hO4 hap4;have HO4:=mh hO4;have HB4:=mh (HB1.out.trans hap4.below);clear hO4 hap4)
      | fail)
     go_ret
     refine TxG.own HB4.out ?_
     rw[← List.cons_append,← List.cons_append,List.map_append];exact HO4.out
  ·obtain rfl:=h10
   have HT:=mh (show textW (.mk 10 n m K)=opW 10 :: [40]::(textL K ++ [[41]]) by
    rw[textW,if_neg (by decide),if_neg (by decide),if_neg (by decide),if_neg (by decide),if_pos (by decide)])
   have hkl:(textL K).length≤1000000:=by
    have:=hl;rw[HT.out]at this;simp only[List.length_cons,lap,List.length_nil]at this;omega
   have HL:=mh (show OwnR SB ((w.alloc (.cells #[I O 10,I O n,I O m,.slice p K.length c] 28)).alloc (.cells #[.string ⟨#[111,114]⟩,.string ⟨#[40]⟩] 9)) 9 w.heap.size (.slice (some ⟨w.heap.size+1,0,none⟩) 2 2) ((opW 10 :: [40]::textL (K.take 0)).map bs)∧Below w.heap.size w ((w.alloc (.cells #[I O 10,I O n,I O m,.slice p K.length c] 28)).alloc (.cells #[.string ⟨#[111,114]⟩,.string ⟨#[40]⟩] 9)) by
    have:=OwnR.lit (S:=SB) (w.alloc (.cells #[I O 10,I O n,I O m,.slice p K.length c] 28)) 9 [bs (opW 10),bs [40]] (by show 2≤_;unfold maxLen;omega);rw[World.size_alloc]at this
    exact⟨this.mono (Nat.le_succ _),balloc mle HB0.out _⟩)
   rw[HT.out];clear h hl hE ih hat hfL B0 hs
   go_enter Tryz.func94,Tryz.ntmps94
   go_wp2
   go_loopw [4,48] (fun v i wr=>∃j:Nat,j≤K.length∧i=I O j∧OwnR SB wr 9 w.heap.size v ((opW 10 :: [40]::textL (K.take j)).map bs)∧Below w.heap.size w wr) (fun _ i _=>K.length - (intOf i).toNat)
   case atStart=>exact⟨0,Nat.zero_le _,rfl,HL.out⟩
   case round =>
    obtain⟨wo,rfl⟩:∃wo:World,wo=wr:=⟨_,rfl⟩;obtain⟨j,hj,rfl,hO,hb⟩:=hrel;have HO:=mh hO;have HB:=mh hb;have hj0:(0:Int)≤(j:Int):=inn _
    by_cases hlt:j<K.length
    ·have hj1:(j:Int)<(K.length:Int):=by omega
     obtain⟨e,b,off,k,rfl,rfl,hbl,hcs,hv⟩:=(HA.out.below hb).kid hlt;obtain⟨c0,c1,c2,c3⟩:=hcs;have hkj:=textL_len (List.getElem_mem hlt);have HS:=mh (textL_succ K j hlt);have hlj:=textL_take K (j+1);rw[HS.out,lap]at hlj;have HK:=mh (IH.out e (by omega) k K[j] _ (hv.below ((brf _ _).alloc mle (.cells #[I O k.op,I O k.num,I O k.more,.slice k.p k.n k.c] 28))) (form_mem HFL.out j hlt) (by omega) (HE.out _ (balloc mle hb _)));have HB1:=mh (balloc mle hb (.cells #[I O k.op,I O k.num,I O k.more,.slice k.p k.n k.c] 28));have HO1:=mh (hO.below ((brf _ _).alloc mle (.cells #[I O k.op,I O k.num,I O k.more,.slice k.p k.n k.c] 28)));have hsz:=hb.size;clear hv hO hb
     go_wp2_with (first
      | (go_at_call 94;(with_reducible refine cmo HK.out ?_);rintro e w1 ⟨q,cc,rfl,hO2,hb1⟩;have HO2:=mh hO2.src.2;have HB2:=mh (bstep mle HB1.out hb1);have HO3:=mh (HO1.out.below hb1);have hz1:=hb1.size;simp only[World.size_alloc]at hz1;clear hb1 hO2)
      | (at_builtin;(refine OwnR.appendAll el_str rfl (.tmp 52) (.tmp 54) rfl w.heap.size _ ((opW 10 :: [40]::textL (K.take j)).map bs) ((textW K[j]).map bs) q cc (textW K[j]).length (List.length_map _) HO3.out HO2.out.1 HO2.out.2 rfl rfl (by omega) (by simp;omega) (by decide) ?_);intro v2 w2 hO4 hap4;have HO4:=mh hO4;have HB4:=mh (HB2.out.trans hap4.below);clear hO4 hap4)
      | fail)
     go_roundw
     case rel=>exact⟨j+1,by omega,by go_num,by rw[HS.out,← List.cons_append,← List.cons_append,List.map_append];exact HO4.out,HB4.out⟩
     case measure=>simp[intOf];omega
    ·obtain rfl:j=K.length:=by omega
     rw[List.take_length]at HO;have HB1:=mh (balloc mle hb (.cells #[.string ⟨#[41]⟩] 9));have HO1:=mh (HO.out.below ((brf _ _).alloc mle (.cells #[.string ⟨#[41]⟩] 9)));have HS1:=mh (Recs.lit (S:=SB) wo 9 [bs [41]] (by show 1≤_;unfold maxLen;omega));have hsz:=hb.size;clear hO hb
     go_wp2_with (first
      | (at_builtin;(refine OwnR.appendAll el_str rfl (.tmp 57) (.tmp 58) rfl w.heap.size _ ((opW 10 :: [40]::textL K).map bs) [bs [41]] (some ⟨wo.heap.size,0,none⟩) 1 1 rfl HO1.out HS1.out (fun h=>by cases h) rfl rfl (by simp;omega) (by simp;omega) (by decide) ?_);intro v2 w2 hO4 hap4;have HO4:=mh hO4;have HB4:=mh (HB1.out.trans hap4.below);clear hO4 hap4)
      | fail)
     go_ret
     refine TxG.own HB4.out ?_
     rw[← List.cons_append,← List.cons_append,List.map_append];exact HO4.out
namespace Te
open Go.Lib
mutual
def tS:Tm→List UInt8
 | .mk o n m K=>opW o ++
   (if o=1 then []
   else if o=4 then 32::Cr.mword n.toNat
   else if o=7 then (32::itoa n)++(32::Cr.mword m.toNat)
   else if o=11 then tSL K
   else if o=9∨o=10 then [32,40]++(tSL K ++ [32,41])
   else 32::itoa n)
def tSL:List Tm→List UInt8
 | [] => []
 | k::r=>(32::tS k)++tSL r
end
theorem joinTail_cons (x:List UInt8)(r:List (List UInt8)):joinTail [32] (x::r)=(32::x)++joinTail [32] r:=by simp[joinTail]
theorem joinTail_append (a b:List (List UInt8)):joinTail [32] (a++b)=joinTail [32] a++joinTail [32] b:=by simp[joinTail]
mutual
theorem tS_join:∀t:Tm,tS t=join (textW t) [32]
 | .mk o n m K=>by
   have:=tSL_join K;rw[tS,textW,join_cons]
   congr 1
   repeat' split
   all_goals simp[show joinTail [32] []=[] from rfl,joinTail_cons,joinTail_append,this]
theorem tSL_join:∀K:List Tm,tSL K=joinTail [32] (textL K)
 | []=>by rw[tSL,textL];rfl
 | k::r=>by
   have h1:=tS_join k;have h2:=tSL_join r;rw[tSL,textL,joinTail_append,h2,h1];obtain⟨o,n,m,K⟩:=k;rw[textW,join_cons,joinTail_cons]
   simp
end
theorem tSL_append (A B:List Tm):tSL (A++B)=tSL A++tSL B:=by
 induction A with
 | nil=>simp[tSL]
 | cons a r ih=>rw[List.cons_append,tSL,tSL,ih,List.append_assoc]
theorem tSL_succ (K:List Tm)(j:Nat)(h:j<K.length):tSL (K.take (j+1))=tSL (K.take j)++(32::tS K[j]):=by
 rw[tsg h,tSL_append,tSL,tSL,List.append_nil]
theorem tSL_take (K:List Tm)(j:Nat):(tSL (K.take j)).length≤(tSL K).length:=by
 have:=tSL_append (K.take j) (K.drop j);rw[List.take_append_drop]at this;rw[this,lap];omega
/-! ### how long -/
theorem itoa_le {n:Int}(h0:0≤n){k:Nat}(hk:1≤k)(h:n<10 ^ k):(itoa n).length≤k:=by
 unfold itoa;rw[if_neg (by omega),decDigits_length];have key:∀(k u:Nat),u<10 ^ (k+1)→nDigits u≤k+1:=by
  intro k
  induction k with
  | zero=>intro u hu;rw[nDigits_small (by simpa using hu)];omega
  | succ k ih =>
    intro u hu
    by_cases h1:u<10
    ·rw[nDigits_small h1];omega
    ·rw[nDigits_big h1]
     have:=ih (u / 10) (by rw[Nat.pow_succ]at hu;omega);omega
 obtain⟨k,rfl⟩:∃j,k=j+1:=⟨k - 1,by omega⟩;refine key k n.toNat ?_;have e:((10 ^ (k+1):Nat):Int)=(10:Int) ^ (k+1):=by push_cast;rfl
 omega
theorem mword_single {m:Int}(h:single m=true):(Cr.mword m.toNat).length=1:=by
 simp only[single,Bool.or_eq_true,beq_iff_eq]at h
 rcases h with (((rfl|rfl)|rfl)|rfl)|rfl<;>decide +kernel
theorem opW_len:∀o:Int,1≤o→o≤11→(opW o).length≤6:=by
 intro o h1 h2;have:o=1∨o=2∨o=3∨o=4∨o=5∨o=6∨o=7∨o=8∨o=9∨o=10∨o=11:=by omega
 rcases this with rfl|rfl|rfl|rfl|rfl|rfl|rfl|rfl|rfl|rfl|rfl<;>decide +kernel
mutual
theorem tS_len:∀t:Tm,form t=true→(tS t).length+1≤12*count t
 | .mk o n m K=>fun h=>by
   obtain⟨o1,o2⟩:=form_op h;have hw:=opW_len o o1 o2;rw[form,Bool.and_eq_true]at h;have hL:=tSL_len K h.2;have hs:=h.1;rw[tS,count,lap]
   by_cases h1:o=1
   ·subst h1
    rw[if_pos rfl]
    simp
    omega
   rw[if_neg h1]
   by_cases h4:o=4
   ·subst h4
    simp[selfB]at hs
    rw[if_pos rfl,List.length_cons,mword_single hs.1.1];have:(opW 4).length=4:=rfl;omega
   rw[if_neg h4]
   by_cases h7:o=7
   ·subst h7
    simp[selfB]at hs
    rw[if_pos rfl,lap,List.length_cons,List.length_cons,mword_single hs.1.2];have:(opW 7).length=6:=rfl;have:=itoa_le (n:=n) (by omega) (k:=2) (by omega) (by omega);omega
   rw[if_neg h7]
   by_cases h11:o=11
   ·subst h11
    rw[if_pos rfl];have:(opW 11).length=3:=rfl;omega
   rw[if_neg h11]
   by_cases h9:o=9∨o=10
   ·rw[if_pos h9]
    have:(opW o).length≤3:=by rcases h9 with rfl|rfl<;>decide
    simp only[lap,List.length_cons,List.length_nil];omega
   rw[if_neg h9,List.length_cons];have hb:0≤n∧n≤40:=by
    unfold selfB at hs
    repeat' split at hs
    all_goals first|omega|(simp at hs)|(cases hs)
    all_goals omega
   have:=itoa_le (n:=n) hb.1 (k:=2) (by omega) (by omega);omega
theorem tSL_len:∀K:List Tm,formL K=true→(tSL K).length≤12*countL K
 | [],_=>by rw[tSL];simp
 | k::r,h=>by
   rw[formL,Bool.and_eq_true]at h;have h1:=tS_len k h.1;have h2:=tSL_len r h.2;rw[tSL,countL,lap,List.length_cons];omega
end
theorem lens_le (ws:List (List UInt8)):ws.length≤(joinTail [32] ws).length:=by
 induction ws with
 | nil=>simp
 | cons x r ih=>rw[joinTail_cons,lap,List.length_cons,List.length_cons];omega
theorem textW_len {t:Tm}(h:form t=true):(textW t).length≤12*count t:=by
 have h1:=tS_len t h;rw[tS_join]at h1;obtain⟨o,n,m,K⟩:=t;rw[textW]at h1 ⊢;rw[join_cons,lap]at h1;rw[List.length_cons];have:=lens_le (if o=1 then [] else if o=4 then [Cr.mword n.toNat] else if o=7 then [itoa n,Cr.mword m.toNat] else if o=11 then textL K else if o=9∨o=10 then [40]::(textL K ++ [[41]]) else [itoa n]);omega
theorem chkT_ok {t:Tm}(h:chkT t=0):count t≤40∧depth t≤8∧form t=true:=by
 unfold chkT at h
 split at h
 ·omega
 ·split at h
  ·omega
  ·next h1 h2 =>
   refine⟨by omega,by omega,?_⟩
   cases e:form t with
   | true=>rfl
   | false=>exact absurd (.inr e) h2
end Te
end Go.Proofs.YtbcmabolkkfgfaaGreatDoor
