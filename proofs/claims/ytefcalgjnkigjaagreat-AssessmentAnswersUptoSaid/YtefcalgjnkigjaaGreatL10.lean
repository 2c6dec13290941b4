/- Packed. -/
import Derived.Test.YtefcalgjnkigjaaGreatL8
import Derived.Test.YtefcalgjnkigjaaGreatL9
set_option maxRecDepth 100000
set_option maxHeartbeats 2000000
open Go.Value renaming int → I
open Go.IntKind renaming i64 → O
namespace Go.Proofs.YtefcalgjnkigjaaGreat
open Go.RowKit
theorem lA (a b:Int)(w:World) :
  Calls Tryz.prog 212 #[I O a,I O b] w fun e w' => e = .returned (.bool (Ex.fits a b))∧w=w' :=by
 go_enter Tryz.func212,Tryz.ntmps212
 go_wp2
 all_goals
  go_ret
  refine⟨qT ?_,rfl⟩
  unfold Ex.fits
  simp
  try omega
theorem vA (a b:Int)(w:World) :
  Calls Tryz.prog 188 #[I O a,I O b] w fun e w' => e = .returned (.bool (Ex.fits a b))∧w=w' :=by
 go_enter Tryz.func188,Tryz.ntmps188
 go_wp2
 all_goals
  go_ret
  refine⟨qT ?_,rfl⟩
  unfold Ex.fits
  simp
  try omega
theorem lB (a b:Int)(w:World) :
  Calls Tryz.prog 183 #[I O a,I O b] w fun e w' => e = .returned (I O (Ex.down a b))∧w=w' :=by
 by_cases hf:Ex.fits a b=true
 ·obtain⟨h1,h2,h3,h4⟩:=Ex.fits_iff.1 hf
  have e:=Ex.tdiv_floor (a:=a) h3;obtain⟨b1,b2⟩:=Ex.tdiv_bd hf;have hd:Ex.down a b=a / b:=by unfold Ex.down;rw[if_pos hf]
  rw[hd,← e];clear e hd;have hb:¬b=0:=by omega
  go_enter Tryz.func183,Tryz.ntmps183
  go_wp2_with (go_at_call 212;refine(lA _ _ _).mono ?_;rintro e w' ⟨rfl,rfl⟩)
  all_goals
   go_ret
   refine⟨qA ?_,rfl⟩
   simp[*]
   try omega
 ·replace hf:Ex.fits a b=false:=by simpa using hf
  have hd:Ex.down a b=0:=by unfold Ex.down;rw[hf];rfl
  rw[hd]
  go_enter Tryz.func183,Tryz.ntmps183
  go_wp2_with (go_at_call 212;refine(lA _ _ _).mono ?_;rintro e w' ⟨rfl,rfl⟩)
  go_ret
  exact⟨rfl,rfl⟩
theorem qGA (a b:Int)(w:World) :
  Calls Tryz.prog 150 #[I O a,I O b] w fun e w' => e = .returned (I O (Ex.down a b))∧w=w' :=by
 by_cases hf:Ex.fits a b=true
 ·obtain⟨h1,h2,h3,h4⟩:=Ex.fits_iff.1 hf
  obtain⟨e1,e2,e3⟩:=Ex.tdiv_mul hf;obtain⟨b1,b2⟩:=Ex.tdiv_bd hf;have hd:Ex.down a b=a / b:=by unfold Ex.down;rw[if_pos hf]
  rw[hd,← e3];have em:IntKind.i64.wrap (a.tdiv b*b)=a.tdiv b*b:=IntWalk.i64_in _ ⟨by omega,by omega⟩;clear hd e3;have hb:¬b=0:=by omega
  by_cases hlt:a<a.tdiv b*b
  ·rw[if_pos hlt]
   go_enter Tryz.func150,Tryz.ntmps150
   go_wp2_with (go_at_call 188;refine(vA _ _ _).mono ?_;rintro e w' ⟨rfl,rfl⟩)
   go_ret
   exact⟨rfl,rfl⟩
  ·rw[if_neg hlt]
   go_enter Tryz.func150,Tryz.ntmps150
   go_wp2_with (go_at_call 188;refine(vA _ _ _).mono ?_;rintro e w' ⟨rfl,rfl⟩)
   go_ret
   exact⟨rfl,rfl⟩
 ·replace hf:Ex.fits a b=false:=by simpa using hf
  have hd:Ex.down a b=0:=by unfold Ex.down;rw[hf];rfl
  rw[hd]
  go_enter Tryz.func150,Tryz.ntmps150
  go_wp2_with (go_at_call 188;refine(vA _ _ _).mono ?_;rintro e w' ⟨rfl,rfl⟩)
  go_ret
  exact⟨rfl,rfl⟩
theorem uWA (a b:Int)(w:World)(ha : -9223372036854775808<a)(ha' : a≤9223372036854775807) :
  Calls Tryz.prog 187 #[I O a,I O b] w fun e w' => e = .returned (I O (Ex.up a b))∧w=w' :=by
 unfold Ex.up;have h:=Ex.down_bd (-a) b
 go_enter Tryz.func187,Tryz.ntmps187
 go_wp2_with (go_at_call 183;refine(lB _ _ _).mono ?_;rintro e w' ⟨rfl,rfl⟩)
 go_ret
 exact⟨rfl,rfl⟩
def pG (a b:Int):Int:=if a<b then -1 else if b<a then 1 else 0
def orI (x y:Int):Int:=if x=0 then y else x
theorem hQA (x y:Int)(b c:Nat)(w:World)(h0:w.cell? ⟨b,0,none⟩=some (I O x))(h1:w.cell? ⟨b,0+1,none⟩=some (I O y)) :
  Calls Tryz.prog 138 #[.slice (some ⟨b,0,none⟩) 2 c] w fun e w' => e = .returned (I O (orI x y))∧w=w' :=by
 unfold orI
 by_cases hx:x=0
 ·subst hx
  rw[if_pos rfl]
  by_cases hy:y=0
  ·subst hy
   go_enter Tryz.func138,Tryz.ntmps138
   go_wp2
   refine wp_loop_rounds 3 ?_
   rw[rounds_succ]
   go_wp2
   rw[rounds_succ]
   go_wp2
   rw[rounds_succ]
   go_wp2
   go_ret
   exact⟨rfl,rfl⟩
  ·have hyb:(y==0)=false:=by simpa using hy
   go_enter Tryz.func138,Tryz.ntmps138
   go_wp2
   refine wp_loop_rounds 3 ?_
   rw[rounds_succ]
   go_wp2
   rw[rounds_succ]
   go_wp2
   go_ret
   exact⟨rfl,rfl⟩
 ·rw[if_neg hx]
  have hxb:(x==0)=false:=by simpa using hx
  go_enter Tryz.func138,Tryz.ntmps138
  go_wp2
  refine wp_loop_rounds 3 ?_
  rw[rounds_succ]
  go_wp2
  go_ret
  exact⟨rfl,rfl⟩
theorem qVA (x y:Nat)(hx:x<9223372036854775808)(hy:y<9223372036854775808)(w:World) :
  Calls Tryz.prog 175 #[I O x,I O y] w fun e w' => e = .returned (.agg #[.int .u64 ((x*y / 18446744073709551616:Nat):Int),.int .u64 ((x*y % 18446744073709551616:Nat):Int)])∧Below w.heap.size w w' :=by
 have hm:=fun w=>Calls.same (Tryz.bits_Mul64 x y (by omega) (by omega) w)
 have HM:=mh hm;clear hm;generalize hX:x*y / 18446744073709551616=X at *;generalize hY:x*y % 18446744073709551616=Y at *;clear hX hY
 go_enter Tryz.func175,Tryz.ntmps175
 go_wp2_with (go_at_call 179;refine(HM _).mono ?_;rintro e w' ⟨rfl,rfl⟩)
 exact bodyPost_ret (v := .agg #[.int .u64 X,.int .u64 Y]) (by simp[results,Tryz.results175,go_sem]) rfl ⟨rfl,by go_grown⟩
theorem uTA:qLA:=fun y w h1 h2=>by
 obtain⟨s1,s2,s3,s4⟩:=Kn.lz_spec h1 h2;rw[← s2];exact Calls.same (Tryz.bits_LeadingZeros64 y w (by omega) (by omega))
theorem yGA (hi lo y:Int)(w:World)(h0:0≤hi)(h1:hi<y)(h2:y<18446744073709551616)(h3:0≤lo)(h4:lo<18446744073709551616) :
  Calls Tryz.prog 176 #[.int .u64 hi,.int .u64 lo,.int .u64 y] w fun e w' => e = .returned (.tuple #[.int .u64 ((hi*18446744073709551616+lo) / y),.int .u64 ((hi*18446744073709551616+lo) % y)])∧∃n,w' = w.drewN n :=
 xVA uTA hi lo y w h0 h1 h2 h3 h4
def dq (t p s:Int):Int:=if s≤t*p / 18446744073709551616 then 1125899906842625 else min (t*p / s) 1125899906842625
def dr (t p s:Int):Int:=if s≤t*p / 18446744073709551616 then 0 else t*p % s
structure Div (t p s:Int):Prop where
 t0:0≤t
 t1:t≤1099511627776
 p0:0≤p
 p1:p≤1099511627776
 s0:1≤s
 s1:s≤70368744177664
theorem Div.prod {t p s:Int}(h:Div t p s):0≤t*p∧t*p≤1208925819614629174706176:=by
 refine⟨Int.mul_nonneg h.t0 h.p0,?_⟩
 have h1:t*p≤1099511627776*p:=Int.mul_le_mul_of_nonneg_right h.t1 h.p0;have:=h.p1;omega
theorem Div.words {t p s:Int}(h:Div t p s):((t.toNat*p.toNat / 18446744073709551616:Nat):Int)=t*p / 18446744073709551616∧((t.toNat*p.toNat % 18446744073709551616:Nat):Int)=t*p % 18446744073709551616:=by
 obtain⟨a,rfl⟩:=Int.eq_ofNat_of_zero_le h.t0;obtain⟨b,rfl⟩:=Int.eq_ofNat_of_zero_le h.p0
 simp
theorem mZ {t p s:Int}(h:Div t p s)(w:World) :
  Calls Tryz.prog 135 #[I O t,I O p,I O s] w fun e w' => e = .returned (.tuple #[I O (dq t p s),I O (dr t p s)])∧Below w.heap.size w w' :=by
 have hp:=qVA t.toNat p.toNat (by have:=h.t1;omega) (by have:=h.p1;omega);rw[h.words.1,h.words.2,Int.toNat_of_nonneg h.t0,Int.toNat_of_nonneg h.p0]at hp;obtain⟨x0,x1⟩:=h.prod;have s0:=h.s0;have s1:=h.s1;unfold dq dr;clear h;generalize t*p=X at *;have HP:=mh hp;clear hp;have e1:X / 18446744073709551616*18446744073709551616+X % 18446744073709551616=X:=by omega
 have hd:=fun w (hlt:X / 18446744073709551616<s)=>yGA (X / 18446744073709551616) (X % 18446744073709551616) s w (by omega) hlt (by omega) (by omega) (by omega)
 rw[e1]at hd;have l0:0≤X / 18446744073709551616:=by omega
 have l1:X / 18446744073709551616≤65536:=by omega
 have m0:0≤X % 18446744073709551616:=by omega
 have m1:X % 18446744073709551616<18446744073709551616:=by omega
 have q0:0≤X / s:=Int.ediv_nonneg x0 (by omega);have q1:X / 18446744073709551616<s→X / s<18446744073709551616:=fun hlt=>by rw[Int.ediv_lt_iff_lt_mul (by omega)];omega
 have r0:0≤X % s:=Int.emod_nonneg _ (by omega);have r1:X % s<s:=Int.emod_lt_of_pos _ (by omega)
 by_cases hs:s≤X / 18446744073709551616
 ·rw[if_pos hs,if_pos hs]
  clear hd q1 e1;generalize X / 18446744073709551616=hi at *;generalize X % 18446744073709551616=lo at *
  go_enter Tryz.func135,Tryz.ntmps135
  go_wp2_with (first|(go_at_call 175;refine(HP _).mono ?_;rintro e w1 ⟨rfl,hb1⟩))
  go_ret2
  have hs1:=hb1.size;exact⟨rfl,by go_grown⟩
 ·rw[if_neg hs,if_neg hs]
  have hd2:=fun w=>hd w (by omega)
  have HD:=mh hd2;have q1' := q1 (by omega);clear hd hd2 q1 e1;generalize X / 18446744073709551616=hi at *;generalize X % 18446744073709551616=lo at *;generalize X / s=q at *;generalize X % s=r at *
  go_enter Tryz.func135,Tryz.ntmps135
  go_wp2_with (first|(go_at_call 175;refine(HP _).mono ?_;rintro e w1 ⟨rfl,hb1⟩)|(go_at_call 176;refine(HD _).mono ?_;rintro e w2 ⟨rfl,n,rfl⟩))
  have hs1:=hb1.size
  go_ret2
  have er:IntKind.i64.wrap r=r:=IntWalk.i64_in _ ⟨by omega,by omega⟩;have eq:IntKind.i64.wrap (min q 1125899906842625)=min q 1125899906842625:=IntWalk.i64_in _ ⟨by omega,by omega⟩;exact⟨by first|rfl|(simp only[er,eq];rfl),qH (hb1.alloc hs1 _) (by simp;omega) (qQ _ _)⟩
def rq (t p s:Int):Int:=if s≤t*p / 18446744073709551616 then 0 else wrap64 (t*p / s)
def rr (t p s:Int):Int:=if s≤t*p / 18446744073709551616 then 0 else t*p % s
def rk (t p s:Int):Bool:=if s≤t*p / 18446744073709551616 then false else decide (t*p / s<9223372036854775808)
theorem wP {t p s:Int}(h:Div t p s)(w:World) :
  Calls Tryz.prog 140 #[I O t,I O p,I O s] w fun e w' => e = .returned (.tuple #[I O (rq t p s),I O (rr t p s),.bool (rk t p s)])∧∃n,w' = w.drewN n:=by
 have hm:=fun w=>Calls.same (Tryz.bits_Mul64 t.toNat p.toNat (by have:=h.t1;omega) (by have:=h.p1;omega) w)
 rw[h.words.1,h.words.2,Int.toNat_of_nonneg h.t0,Int.toNat_of_nonneg h.p0]at hm;obtain⟨x0,x1⟩:=h.prod;have t0:=h.t0;have t1:=h.t1;have p0:=h.p0;have p1:=h.p1;have s0:=h.s0;have s1:=h.s1;unfold rq rr rk;clear h;generalize t*p=X at *;have HP:=mh hm;clear hm;have e1:X / 18446744073709551616*18446744073709551616+X % 18446744073709551616=X:=by omega
 have hd:=fun w (hlt:X / 18446744073709551616<s)=>yGA (X / 18446744073709551616) (X % 18446744073709551616) s w (by omega) hlt (by omega) (by omega) (by omega)
 rw[e1]at hd;have l0:0≤X / 18446744073709551616:=by omega
 have l1:X / 18446744073709551616≤65536:=by omega
 have m0:0≤X % 18446744073709551616:=by omega
 have m1:X % 18446744073709551616<18446744073709551616:=by omega
 have q0:0≤X / s:=Int.ediv_nonneg x0 (by omega);have q1:X / 18446744073709551616<s→X / s<18446744073709551616:=fun hlt=>by rw[Int.ediv_lt_iff_lt_mul (by omega)];omega
 have r0:0≤X % s:=Int.emod_nonneg _ (by omega);have r1:X % s<s:=Int.emod_lt_of_pos _ (by omega)
 by_cases hs:s≤X / 18446744073709551616
 ·rw[if_pos hs,if_pos hs,if_pos hs]
  clear hd q1 e1;generalize X / 18446744073709551616=hi at *;generalize X % 18446744073709551616=lo at *
  go_enter Tryz.func140,Tryz.ntmps140
  go_wp2_with (first|(go_at_call 179;refine(HP _).mono ?_;rintro e w' ⟨rfl,rfl⟩))
  go_ret3
  exact⟨rfl,0,rfl⟩
 ·rw[if_neg hs,if_neg hs,if_neg hs]
  have hd2:=fun w=>hd w (by omega)
  have HD:=mh hd2;have q1' := q1 (by omega);clear hd hd2 q1 e1;generalize X / 18446744073709551616=hi at *;generalize X % 18446744073709551616=lo at *;generalize X / s=q at *;generalize X % s=r at *
  go_enter Tryz.func140,Tryz.ntmps140
  go_wp2_with (first|(go_at_call 179;refine(HP _).mono ?_;rintro e w' ⟨rfl,rfl⟩)|(go_at_call 176;refine(HD _).mono ?_;rintro e w2 ⟨rfl,n,rfl⟩))
  go_ret3
  have er:IntKind.i64.wrap r=r:=IntWalk.i64_in _ ⟨by omega,by omega⟩;exact⟨by first|rfl|(simp only[er];rfl),n,rfl⟩
/-! ### Part -/
def uG (t p s:Int):Int × Int :=
 if 0≤t∧t≤1099511627776∧0≤p∧p≤1099511627776∧1≤s∧s≤1099511627776 then (if 1125899906842624<t*p / s then (0,2) else (t*p / s,0)) else (0,2)
theorem dq_gt {t p s:Int}(h:Div t p s):(1125899906842624<dq t p s↔1125899906842624<t*p / s)∧(¬1125899906842624<t*p / s→dq t p s=t*p / s):=by
 obtain⟨x0,x1⟩:=h.prod;have s0:=h.s0;unfold dq
 by_cases hs:s≤t*p / 18446744073709551616
 ·rw[if_pos hs]
  have:18446744073709551616≤t*p / s:=by rw[Int.le_ediv_iff_mul_le (by omega)];omega
  omega
 ·rw[if_neg hs];omega
theorem rq_gt {t p s:Int}(h:Div t p s):(rk t p s=false∨1125899906842624<rq t p s↔1125899906842624<t*p / s)∧(¬1125899906842624<t*p / s→rq t p s=t*p / s∧rk t p s=true):=by
 obtain⟨x0,x1⟩:=h.prod;have s0:=h.s0;unfold rq rk
 by_cases hs:s≤t*p / 18446744073709551616
 ·rw[if_pos hs,if_pos hs]
  have:18446744073709551616≤t*p / s:=by rw[Int.le_ediv_iff_mul_le (by omega)];omega
  simp;omega
 ·rw[if_neg hs,if_neg hs]
  have q0:0≤t*p / s:=Int.ediv_nonneg x0 (by omega);rw[decide_eq_false_iff_not]
  by_cases hk:t*p / s<9223372036854775808
  ·rw[IntWalk.wrap64_in _ ⟨by omega,by omega⟩]
   simp[hk]
  ·simp only[hk,not_false_eq_true,true_or,true_iff]
   omega
theorem jC (n:Int)(w:World) :
  Calls Tryz.prog 132 #[I O n] w fun e w' => e = .returned (.bool (Sh.limited n))∧w=w' :=by
 go_enter Tryz.func132,Tryz.ntmps132
 go_wp2
 all_goals
  go_ret
  refine⟨qT ?_,rfl⟩
  unfold Sh.limited
  simp
  try omega
theorem gTA (t p s:Int)(w:World) :
  Calls Tryz.prog 185 #[I O t,I O p,I O s] w fun e w' => e = .returned (.tuple #[I O (uG t p s).1,I O (uG t p s).2])∧Below w.heap.size w w' :=by
 by_cases hin:0≤t∧t≤1099511627776∧0≤p∧p≤1099511627776∧1≤s∧s≤1099511627776
 ·have hp:uG t p s=if 1125899906842624<t*p / s then (0,2) else (t*p / s,0):=by unfold uG;rw[if_pos hin]
  obtain⟨t0,t1,p0,p1,s0,s1⟩:=hin;have h:Div t p s:=⟨t0,t1,p0,p1,s0,by omega⟩;obtain⟨g1,g2⟩:=dq_gt h;have hd:=mZ h;rw[hp];clear hp h;have HD:=mh hd;clear hd;have l1:Sh.limited t=true:=Sh.limited_iff.2 ⟨t0,t1⟩;have l2:Sh.limited p=true:=Sh.limited_iff.2 ⟨p0,p1⟩;have l3:Sh.limited s=true:=Sh.limited_iff.2 ⟨by omega,s1⟩;generalize dq t p s=q at *;generalize t*p / s=x at *
  by_cases hgt:1125899906842624<x
  ·rw[if_pos hgt]
   have hq:=g1.2 hgt;clear g1 g2
   go_enter Tryz.func185,Tryz.ntmps185
   go_wp2_with (first|(go_at_call 132;refine(jC _ _).mono ?_;rintro e w' ⟨rfl,rfl⟩)|(go_at_call 135;refine(HD _).mono ?_;rintro e w1 ⟨rfl,hb1⟩))
   go_ret2
   exact⟨rfl,hb1⟩
  ·rw[if_neg hgt]
   have hq:¬1125899906842624<q:=fun h=>hgt (g1.1 h)
   obtain rfl:=g2 hgt;clear g1 g2 hq
   go_enter Tryz.func185,Tryz.ntmps185
   go_wp2_with (first|(go_at_call 132;refine(jC _ _).mono ?_;rintro e w' ⟨rfl,rfl⟩)|(go_at_call 135;refine(HD _).mono ?_;rintro e w1 ⟨rfl,hb1⟩))
   go_ret2
   exact⟨rfl,hb1⟩
 ·have hp:uG t p s=(0,2):=by unfold uG;rw[if_neg hin]
  rw[hp]
  rcases Bool.eq_false_or_eq_true (Sh.limited t) with l1|l1
  ·rcases Bool.eq_false_or_eq_true (Sh.limited p) with l2|l2
   ·by_cases hs:s<1
    ·go_enter Tryz.func185,Tryz.ntmps185
     go_wp2_with (first|(go_at_call 132;refine(jC _ _).mono ?_;rintro e w' ⟨rfl,rfl⟩))
     go_ret2
     exact⟨rfl,brf _ _⟩
    ·have l3:Sh.limited s=false:=by
      apply Bool.eq_false_iff.2
      intro l3;have a:=Sh.limited_iff.1 l1;have b:=Sh.limited_iff.1 l2;have c:=Sh.limited_iff.1 l3;omega
     go_enter Tryz.func185,Tryz.ntmps185
     go_wp2_with (first|(go_at_call 132;refine(jC _ _).mono ?_;rintro e w' ⟨rfl,rfl⟩))
     go_ret2
     exact⟨rfl,brf _ _⟩
   ·go_enter Tryz.func185,Tryz.ntmps185
    go_wp2_with (first|(go_at_call 132;refine(jC _ _).mono ?_;rintro e w' ⟨rfl,rfl⟩))
    go_ret2
    exact⟨rfl,brf _ _⟩
  ·go_enter Tryz.func185,Tryz.ntmps185
   go_wp2_with (first|(go_at_call 132;refine(jC _ _).mono ?_;rintro e w' ⟨rfl,rfl⟩))
   go_ret2
   exact⟨rfl,brf _ _⟩
open Go.Sort Go.Lib Go.Shelf
theorem fE (a b:Int)(w:World) :
  Calls Tryz.prog 139 #[I O a,I O b] w fun e w' => e = .returned (I O (pG a b))∧w=w' :=
 (Tryz.cmp_Compare_int a b w).mono fun _ _ h=>⟨h.1,h.2.symm⟩
theorem cf_eq (n:Nat)(r:Nat→Int)(x y:Fin n):Sh.cf n r x y=orI (pG (r y.val) (r x.val)) (pG (x.val:Int) (y.val:Int)):=by
 unfold Sh.cf orI pG
 split<;>(try split)<;>(try split)<;>(try split)<;>(try split)<;>(try split)<;>omega
theorem kXA (c rb n i j:Nat)(ri rj:Int)(W:World)(hi:i<n)(hj:j<n)(hbox:W.cell? ⟨c,0,none⟩=some (.slice (some ⟨rb,0,none⟩) n n))
  (hri:W.cell? ⟨rb,i,none⟩=some (I O ri)) (hrj:W.cell? ⟨rb,j,none⟩=some (I O rj)) (_hn:n≤9223372036854775807) :
  Calls Tryz.prog 137 #[I O (i:Int),I O (j:Int),.pointer (some ⟨c,0,none⟩)] W fun e w' => e = .returned (I O (orI (pG rj ri) (pG (i:Int) (j:Int))))∧∃q os,w' = grow (W.drewN q) os:=by
 have hi0:(0:Int)≤(i:Int):=inn _;have hi1:(i:Int)<(n:Int):=by omega
 have hj0:(0:Int)≤(j:Int):=inn _;have hj1:(j:Int)<(n:Int):=by omega
 go_enter Tryz.func137,Tryz.ntmps137
 go_wp2_with fail
 refine yPA 12 (by kernel_rfl) (by kernel_rfl) ?_
 simp only[List.take_succ_cons,List.take_zero,List.drop_succ_cons,List.drop_zero]
 repeat still_step
 still_call (Calls.turn (fE rj ri _))
 repeat still_step
 still_call (Calls.turn (fE (i:Int) (j:Int) _))
 refine wpStill_nil ?_
 change wpList _ _ _ _ _ (World.drew _)
 go_wp2_with (go_at_call 138;refine(hQA (pG rj ri) (pG (i:Int) (j:Int)) _ _ _ (by go_simp) (by go_simp)).mono ?_;rintro e w1 ⟨rfl,rfl⟩)
 go_ret
 refine⟨rfl,1,#[Obj.cells #[I O (pG rj ri),I O (pG (i:Int) (j:Int))] 3],?_⟩
 show(W.drewN 1).alloc _=_
 exact alloc_eq_grow _ _
theorem xM {α:Type} [Inhabited α] (enc:α→Value) (w:World) (blk off m:Nat) (dk:Array α) (os:Array Obj) (a:Addr) (hl:a.block<w.heap.size) (hne:a.block≠blk):(sortWorld enc w blk off m dk os).cell? a=w.cell? a:=by
 unfold sortWorld;rw[cell?_grow _ _ _ (by rw[Sort.size_putRow];exact hl),cell?_putRow_other _ _ _ _ _ _ (Or.inl hne)]
 rfl
def encF (n:Nat) (x:Fin n):Value:=I O (x.val:Int)
theorem kKA (c rb ob n:Nat) [Inhabited (Fin n)] (r:Nat→Int) (w:World) (hn:n≤9223372036854775807) (hc:c<w.heap.size) (hbox:w.cell? ⟨c,0,none⟩=some (.slice (some ⟨rb,0,none⟩) n n))
  (hr:Row w rb n fun j=>I O (r j)) (h1:c≠ob) (h2:rb≠ob) (s:Nat) :
  CmpLays1 Tryz.prog 137 #[.pointer (some ⟨c,0,none⟩)] (encF n) (Sh.cf n r) ob 0 s w:=by
 intro m os dk _ x y;rw[cf_eq];exact kXA c rb n x.val y.val (r x.val) (r y.val) _ x.isLt y.isLt ((xM _ _ _ _ _ _ _ _ hc h1).trans hbox) ((xM _ _ _ _ _ _ _ _ hr.1 h2).trans (hr.2 _ x.isLt).1) ((xM _ _ _ _ _ _ _ _ hr.1 h2).trans (hr.2 _ y.isLt).1) hn
theorem nU {α:Type} [Inhabited α] (enc:α→Value) (w:World) (B blk off m:Nat) (dk:Array α) (os:Array Obj) (h:B≤blk) (hB:B≤w.heap.size):Below B w (sortWorld enc w blk off m dk os):=by
 refine⟨rfl,rfl,rfl,?_,fun k hk=>?_⟩
 ·unfold sortWorld;rw[size_grow,Sort.size_putRow];exact Nat.le_add_right _ _
 ·unfold sortWorld
  rw[heap_grow_old _ _ (by rw[Sort.size_putRow];exact nll hk hB)];unfold putRow mapBlock;simp only[Array.getElem?_modify];rw[if_neg (by omega)]
  rfl
theorem sW {α:Type} [Inhabited α] (enc:α→Value) (w:World) (blk m:Nat) (d0 dk:Array α) (os:Array Obj) (h0:Holds enc w blk 0 d0) (hs:dk.size=d0.size) (hb:blk<w.heap.size) :
  Row (sortWorld enc w blk 0 m dk os) blk dk.size fun j=>enc dk[j]! :=by
 refine⟨?_,fun j hj=>?_⟩
 ·unfold sortWorld;rw[size_grow,Sort.size_putRow];exact nll hb (Nat.le_add_right _ _)
 ·have h0' : Holds enc (Sort.ahead w m) blk 0 d0:=h0
  have c:=cell?_putRow enc (Sort.ahead w m) blk 0 d0 dk h0' hs j hj;rw[Nat.zero_add]at c;unfold sortWorld;refine⟨(cell?_grow _ _ _ (by rw[Sort.size_putRow];exact hb)).trans c,(frozen?_grow _ _ _ (by rw[Sort.size_putRow];exact hb)).trans ?_⟩;rw[frozen?_putRow];have:=(h0 j (by omega)).2;rw[Nat.zero_add]at this;exact this
theorem nH {α:Type} [Inhabited α] (enc:α→Value) (w:World) (blk off m:Nat) (dk:Array α) (os:Array Obj) {b n:Nat} {f:Nat→Value} (h:Row w b n f) (hne:b≠blk):Row (sortWorld enc w blk off m dk os) b n f:=by
 refine⟨?_,fun j hj=>⟨(xM enc w blk off m dk os ⟨b,j,none⟩ h.1 hne).trans (h.2 j hj).1,?_⟩⟩
 ·unfold sortWorld;rw[size_grow,Sort.size_putRow];exact nll h.1 (Nat.le_add_right _ _)
 ·unfold sortWorld
  rw[frozen?_grow _ _ _ (by rw[Sort.size_putRow];exact h.1),frozen?_putRow];exact(h.2 j hj).2
theorem zAA (c rb ob n cap:Nat)(r:Nat→Int)(w:World)(h0:0<n)(hn:n≤64)(hc:c<w.heap.size)(hbox:w.cell? ⟨c,0,none⟩=some (.slice (some ⟨rb,0,none⟩) n n))
  (hr:Row w rb n fun j=>I O (r j)) (ho:Row w ob n fun j=>I O (j:Int)) (h1:c≠ob) (h2:rb≠ob) :
  Calls Tryz.prog 136 #[.slice (some ⟨ob,0,none⟩) n cap,.func (.func 137) #[] #[.pointer (some ⟨c,0,none⟩)]] w fun e w' =>
   e = .returned (.tuple #[])∧Row w' ob n (fun j=>I O ((Sh.order n r).getD j 0:Nat))∧(∀B,B≤ob→B≤w.heap.size→Below B w w')∧∀b m f,b≠ob→Row w b m f→Row w' b m f:=by
 haveI:Inhabited (Fin n):=⟨⟨0,h0⟩⟩
 have hsz:(List.finRange n).toArray.size=n:=by simp
 have hH:Holds (encF n) w ob 0 (List.finRange n).toArray:=by
  intro j hj;rw[hsz]at hj;rw[Nat.zero_add];have:=ho.2 j hj;refine⟨this.1.trans ?_,this.2⟩;rw[getElem!_pos _ j (by simpa using hj)]
  simp[encF]
 have hS:=Tryz.slices_SortFunc_total (encF n) (fun _=>rfl) (Sh.cf n r) (Sh.swo n r) 137 #[.pointer (some ⟨c,0,none⟩)] ob 0 cap (List.finRange n).toArray w
  (enters_of Tryz.func137 (by kernel_rfl) rfl) (kKA c rb ob n r w (by omega) hc hbox hr h1 h2 _) hH ho.1 (by rw[hsz];omega) (Sh.tot n r)
 rw[hsz]at hS;refine hS.mono fun e w' ⟨he,m,os,hw⟩=>?_
 subst hw;have hl:((List.finRange n).mergeSort fun x y => !(ltOf (Sh.cf n r)) y x).toArray.size=(List.finRange n).toArray.size:=by simp
 refine⟨he,?_,fun B hB hB' => nU _ _ _ _ _ _ _ _ hB hB', fun b m f hne h=>nH _ _ _ _ _ _ _ h hne⟩
 have hr:=sW (encF n) w ob m _ _ os hH hl ho.1;rw[hl,hsz]at hr;refine hr.congr fun j hj=>?_
 rw[getElem!_pos _ j (by rw[hl,hsz];exact hj)];unfold Sh.order encF
 simp[List.getD_eq_getElem?_getD,hj]
theorem uLA (x:Int)(w:World):Calls Tryz.prog 134 #[I O x] w fun e w' => e = .returned (.bool (!Sh.limited x))∧w=w' :=by
 go_enter Tryz.func134,Tryz.ntmps134
 go_wp2_with (first|(go_at_call 132;refine(jC _ _).mono ?_;rintro e w' ⟨rfl,rfl⟩))
 go_ret
 exact⟨rfl,rfl⟩
theorem gCA (w:World):PredAt Tryz.prog 134 #[] (Value.int .i64) (fun x => !Sh.limited x) w:=fun W x _=>by
 unfold FnGives;exact(uLA x W).mono fun e w' ⟨h1,h2⟩=>⟨h1,0,h2.symm⟩
theorem gF (p:Option Addr)(zs:List Int)(cap:Nat)(w:World)(h:qR w p zs) :
  Calls Tryz.prog 133 #[.slice p zs.length cap,.func (.func 134) #[] #[]] w fun e w' => e = .returned (.bool (zs.any fun x => !Sh.limited x))∧∃q,w' = w.drewN q:=by
 rcases h.2 with rfl|⟨b,off,rfl,hl,hc⟩
 ·refine(Tryz.slices_ContainsFunc_empty (α:=Int) p cap _ w).mono fun e w' ⟨h1,h2⟩=>⟨h1,0,h2⟩
 ·have:=Tryz.slices_ContainsFunc (α:=Int) (Value.int .i64) (fun x => !Sh.limited x) 134 #[] (enters_of Tryz.func134 (by kernel_rfl) rfl) b off zs.length cap zs w (gCA w) mle h.len (fun j hj=>by
   rw[hc j hj,List.getElem!_eq_getElem?_getD,List.getD_eq_getElem?_getD];rfl)
  rwa [List.take_length]at this
theorem zTA (t:Int)(p:Option Addr)(zs:List Int)(cap:Nat)(w:World)(h:qR w p zs)(hb:64<zs.length∨Sh.limited t=false∨(zs.any fun x => !Sh.limited x)=true) :
  Calls Tryz.prog 96 #[I O t,.slice p zs.length cap] w fun e w' => e = .returned (.tuple #[.slice none 0 0,I O (if 64<zs.length then 1 else 2)])∧Below w.heap.size w w' :=by
 have hl:=h.len;have hc:=fun w h=>gF p zs cap w h
 have HC:=mh hc;have H:=mh h;clear hc h
 by_cases h1:64<zs.length
 ·rw[if_pos h1]
  clear hb
  go_enter Tryz.func96,Tryz.ntmps96
  go_wp2_with (first|(go_at_call 132;refine(jC _ _).mono ?_;rintro e w' ⟨rfl,rfl⟩))
  go_ret2
  exact⟨rfl,brf _ _⟩
 ·rw[if_neg h1]
  rcases hb.resolve_left h1 with h2|h2
  ·clear hb
   go_enter Tryz.func96,Tryz.ntmps96
   go_wp2_with (first|(go_at_call 132;refine(jC _ _).mono ?_;rintro e w' ⟨rfl,rfl⟩))
   go_ret2
   exact⟨rfl,brf _ _⟩
  ·by_cases h3:Sh.limited t=false
   ·clear hb
    go_enter Tryz.func96,Tryz.ntmps96
    go_wp2_with (first|(go_at_call 132;refine(jC _ _).mono ?_;rintro e w' ⟨rfl,rfl⟩))
    go_ret2
    exact⟨rfl,brf _ _⟩
   ·replace h3:Sh.limited t=true:=by simpa using h3
    rw[h2]at HC;clear hb
    go_enter Tryz.func96,Tryz.ntmps96
    go_wp2_with (first|(go_at_call 132;refine(jC _ _).mono ?_;rintro e w' ⟨rfl,rfl⟩)|(go_at_call 133;refine(HC _ H).mono ?_;rintro e w1 ⟨rfl,n,rfl⟩))
    go_ret2
    exact⟨rfl,qQ _ _⟩
theorem yS:(Tryz.prog.info? 3).map (fun i=>(i.zero,i.size,i.bytes))=some (some (I O 0),1,8):=by kernel_rfl
theorem dA (n:Nat)(hn:n≤35184372088832)(w:World) :
  (Instr.makeSlice 22 (I O (n:Int)) (I O (n:Int))).run Tryz.prog w = .ok (.slice (some ⟨w.heap.size,0,none⟩) n n) (w.alloc (.cells (madeCells #[I O 0] n) 3)):=by
 obtain⟨i0,hi,hz0,hz1,hz2⟩:=info_parts yS;have hr:=run_make (P:=Tryz.prog) w 22 3 i0 (I O 0) Tryz.underlying22 hi hz0 .i64 .i64 n n (by omega) (Int.le_refl _) (by rw[hz2];omega) (by omega);simp only[Int.toNat_natCast,hz1,Nat.mul_one]at hr;exact hr
structure L2 (w wr:World) (B n k:Nat) (q r:Nat→Int):Prop where
 below:Below B w wr
 out:Row wr B n fun j=>I O (if j<k then q j else 0)
 ord:Row wr (B+1) n fun j=>I O (if j<k then (j:Int) else 0)
 rst:Row wr (B+1+1) n fun j=>I O (if j<k then r j else 0)
 box:wr.cell? ⟨B+1+1+1,0,none⟩=some (.slice (some ⟨B+1+1,0,none⟩) n n)
 lt:B+1+1+1<wr.heap.size
theorem L2.start (w:World)(n:Nat)(q r:Nat→Int):L2 w ((((w.alloc (.cells (madeCells #[I O 0] n) 3)).alloc (.cells (madeCells #[I O 0] n) 3)).alloc
   (.cells (madeCells #[I O 0] n) 3)).alloc (.cells #[.slice (some ⟨w.heap.size+1+1,0,none⟩) n n] 22)) w.heap.size n 0 q r:=by
 have z:∀(f:Nat→Int) (wr:World) (b:Nat),Row wr b n (fun _=>I O 0)→Row wr b n fun j=>I O (if j<0 then f j else 0):=fun f wr b h=>h.congr fun j _=>by simp
 refine⟨by go_grown,z _ _ _ (((Row.made w n _ _).alloc _).alloc _ |>.alloc _),z _ _ _ ?_,z _ _ _ ?_,by go_simp,by simp⟩
 ·have:=Row.made (w.alloc (.cells (madeCells #[I O 0] n) 3)) n 3 (I O 0)
  rw[World.size_alloc]at this;exact(this.alloc _).alloc _
 ·have:=Row.made ((w.alloc (.cells (madeCells #[I O 0] n) 3)).alloc (.cells (madeCells #[I O 0] n) 3)) n 3 (I O 0)
  rw[World.size_alloc,World.size_alloc]at this;exact this.alloc _
theorem L2.places {w wr w1:World}{B n k:Nat}{q r:Nat→Int}(h:L2 w wr B n k q r)(hk:k<n)(hb:Below wr.heap.size wr w1) :
  (w1.cell? ⟨B,k,none⟩=some (I O 0)∧w1.frozen? ⟨B,k,none⟩=false)∧(w1.cell? ⟨B+1,k,none⟩=some (I O 0)∧w1.frozen? ⟨B+1,k,none⟩=false) ∧
  (w1.cell? ⟨B+1+1,k,none⟩=some (I O 0)∧w1.frozen? ⟨B+1+1,k,none⟩=false)∧w1.cell? ⟨B+1+1+1,0,none⟩=some (.slice (some ⟨B+1+1,0,none⟩) n n):=by
 have a:=(h.out.below hb).2 k hk;have b:=(h.ord.below hb).2 k hk;have c:=(h.rst.below hb).2 k hk;simp only[Nat.lt_irrefl,if_false]at a b c;exact⟨a,b,c,(hb.cell (p:=⟨B+1+1+1,0,none⟩) h.lt).trans h.box⟩
theorem L2.next {w wr w1:World}{B n k:Nat}{q r:Nat→Int}(h:L2 w wr B n k q r)(hk:k<n)(hb:Below wr.heap.size wr w1) :
  L2 w (((w1.setCell ⟨B,k,none⟩ (I O (q k))).setCell ⟨B+1+1,k,none⟩ (I O (r k))).setCell ⟨B+1,k,none⟩ (I O (k:Int))) B n (k+1) q r:=by
 have up:∀(f:Nat→Int) (j:Nat),(if j=k then Value.int .i64 (f k) else I O (if j<k then f j else 0))=I O (if j<k+1 then f j else 0):=fun f j=>by
  by_cases e:j=k
  ·subst e;simp
  ·rw[if_neg e];congr 1;by_cases hj:j<k
   ·rw[if_pos hj,if_pos (by omega)]
   ·rw[if_neg hj,if_neg (by omega)]
 have hl:=h.lt;refine⟨?_,?_,?_,?_,?_,?_⟩
 ·exact(((qH h.below (by omega) hb).setCell (by simp) _).setCell (by simp;omega) _).setCell (by simp) _
 ·exact((((h.out.below hb).set hk _).other (by omega) _).other (by omega) _).congr fun j _=>up q j
 ·exact((((h.ord.below hb).other (by omega) _).other (by omega) _).set hk _).congr fun j _=>up (fun j=>(j:Int)) j
 ·exact((((h.rst.below hb).other (by omega) _).set hk _).other (by omega) _).congr fun j _=>up r j
 ·have c:=(hb.cell (p:=⟨B+1+1+1,0,none⟩) hl).trans h.box
  rw[World.cell?_setCell_other _ _ _ _ (by intro e;simp only[Addr.mk.injEq]at e;omega),World.cell?_setCell_other _ _ _ _ (by intro e;simp only[Addr.mk.injEq]at e;omega),World.cell?_setCell_other _ _ _ _ (by intro e;simp only[Addr.mk.injEq]at e;omega)];exact c
 ·have:=hb.size
  simp only[World.setCell,Array.size_modify];omega
theorem tV {t:Int}{zs:List Int}(h:Sh.Right t zs)(h64:zs.length≤64)(k:Nat):Div t (zs.getD k 0) (Sh.sum zs)∧dq t (zs.getD k 0) (Sh.sum zs)=Sh.quo t zs k∧dr t (zs.getD k 0) (Sh.sum zs)=Sh.rest t zs k:=by
 have w0:=h.w0 k;have w1:=h.w1 k;have hp:=h.pos;have ht:=h.ht;have ht' := h.ht'; have hS:Sh.sum zs≤1099511627776*zs.length:=Sh.sum_le_len fun x hx=>(h.hw x hx).2
 have hw:zs.getD k 0≤1099511627776:=by
  rw[List.getD_eq_getElem?_getD]
  rcases Nat.lt_or_ge k zs.length with hi|hi
  ·rw[List.getElem?_eq_getElem hi];exact(h.hw _ (List.getElem_mem hi)).2
  ·rw[List.getElem?_eq_none hi];decide
 have hd:Div t (zs.getD k 0) (Sh.sum zs):=⟨ht,ht', w0,hw,by omega,by omega⟩;have hlt:¬Sh.sum zs≤t*zs.getD k 0 / 18446744073709551616:=by
  have h1:t*zs.getD k 0≤t*Sh.sum zs:=Int.mul_le_mul_of_nonneg_left w1 ht;have h2:t*Sh.sum zs≤1099511627776*Sh.sum zs:=Int.mul_le_mul_of_nonneg_right ht' (by omega);omega
 refine⟨hd,?_,?_⟩
 ·unfold dq
  rw[if_neg hlt];have:=h.quo1 k;unfold Sh.quo at *;omega
 ·unfold dr
  rw[if_neg hlt]
  rfl
theorem nF {t:Int}{zs:List Int}(h2:Sh.limited t=true)(h3:(zs.any fun x => !Sh.limited x)=false)(hs:Sh.sum zs≠0):Sh.Right t zs:=by
 obtain⟨a,b⟩:=Sh.limited_iff.1 h2;refine⟨a,b,fun x hx=>Sh.limited_iff.1 ?_,hs⟩;rw[List.any_eq_false]at h3
 simpa using h3 x hx
theorem hU {zs:List Int}(h1:zs.length≤64)(h3:(zs.any fun x => !Sh.limited x)=false)(k:Nat):0≤Sh.sum (zs.take k)∧Sh.sum (zs.take k)≤70368744177664:=by
 have hw:∀x∈zs,0≤x∧x≤1099511627776:=fun x hx=>Sh.limited_iff.1 (by rw[List.any_eq_false]at h3;simpa using h3 x hx)
 refine⟨Sh.sum_nonneg fun x hx=>(hw x (List.mem_of_mem_take hx)).1,?_⟩
 have:=Sh.sum_le_len (l:=zs.take k) (c:=1099511627776) fun x hx=>(hw x (List.mem_of_mem_take hx)).2
 rw[List.length_take]at this;omega
structure L3 (w wr:World) (B n k:Nat) (t:Int) (zs:List Int):Prop where
 below:Below B w wr
 out:Row wr B n fun j=>I O (Sh.quo t zs j+if Sh.top n (Sh.rest t zs) k j=true then 1 else 0)
 ord:Row wr (B+1) n fun j=>I O ((Sh.order n (Sh.rest t zs)).getD j 0:Nat)
theorem L3.next {w wr:World}{B n k i:Nat}{t:Int}{zs:List Int}(h:L3 w wr B n k t zs)(hk:k<n)(hi:(Sh.order n (Sh.rest t zs)).getD k 0=i):i<n∧wr.cell? ⟨B,i,none⟩=some (I O (Sh.quo t zs i))∧wr.frozen? ⟨B,i,none⟩=false∧wr.cell? ⟨B+1,k,none⟩=some (I O (i:Int)) ∧
  L3 w (wr.setCell ⟨B,i,none⟩ (I O (Sh.quo t zs i+1))) B n (k+1) t zs:=by
 have hkl:k<(Sh.order n (Sh.rest t zs)).length:=by rw[Sh.order_len];exact hk
 have e:(Sh.order n (Sh.rest t zs))[k]=i:=by rw[← hi,List.getD_eq_getElem?_getD,List.getElem?_eq_getElem hkl];rfl
 have hin:i<n:=by rw[← e];exact(Sh.order_mem n _ _).1 (List.getElem_mem hkl)
 have ht:Sh.top n (Sh.rest t zs) k i=false:=by rw[← e];exact Sh.top_at hkl
 have c:=h.out.2 i hin;simp only[ht,Bool.false_eq_true,if_false,Int.add_zero]at c;have d:=(h.ord.2 k hk).1;simp only[hi]at d;refine⟨hin,c.1,c.2,d,h.below.setCell mle _,(h.out.set hin _).congr fun j _=>?_,h.ord.other (by omega) _⟩;rw[Sh.top_succ hkl,e]
 by_cases hj:j=i
 ·subst hj
  rw[if_pos rfl]
  simp
 ·rw[if_neg hj]
  simp[hj]
theorem qPA (t:Int)(p:Option Addr)(zs:List Int)(cap:Nat)(w:World)(h:qR w p zs)(h1:zs.length≤64)(h2:Sh.limited t=true)(h3:(zs.any fun x => !Sh.limited x)=false)(hs:Sh.sum zs≠0) :
  Calls Tryz.prog 96 #[I O t,.slice p zs.length cap] w fun e w' => e = .returned (.tuple #[.slice (some ⟨w.heap.size,0,none⟩) zs.length zs.length,I O 0])∧Row w' w.heap.size zs.length (fun j=>I O (Sh.share t zs j))∧Below w.heap.size w w' :=by
 have hl:=h.len;have hc:=fun w h=>gF p zs cap w h
 rw[h3]at hc;have HC:=mh hc;have H:=mh h;have hm:=dA zs.length (by omega);have hsum:=hU h1 h3;have HS:=mh hsum;clear hc h hsum;have hsB:(Sh.sum zs==0)=false:=by simpa using hs
 have hR:=nF h2 h3 hs;have hdv:∀k W,Calls Tryz.prog 135 #[I O t,I O (zs.getD k 0),I O (Sh.sum zs)] W fun e w' => e = .returned (.tuple #[I O (Sh.quo t zs k),I O (Sh.rest t zs k)])∧Below W.heap.size W w' := fun k W=>by
  obtain⟨d1,d2,d3⟩:=tV hR h1 k;rw[← d2,← d3];exact mZ d1 W
 have HD:=mh hdv;have HR:=mh hR;clear hdv hR
 go_enter Tryz.func96,Tryz.ntmps96
 go_wp2_with (first|(go_at_call 132;refine(jC _ _).mono ?_;rintro e w' ⟨rfl,rfl⟩)|(go_at_call 133;refine(HC _ H).mono ?_;rintro e w1 ⟨rfl,n,rfl⟩))
 go_loop [6,29] (fun s i=>∃k:Nat,k≤zs.length∧i=I O k∧s=I O (Sh.sum (zs.take k))) (fun _ i=>zs.length - (intOf i).toNat)
 case atStart=>exact⟨0,Nat.zero_le _,rfl,by simp[Sh.sum]⟩
 case round =>
  obtain⟨k,hk,rfl,rfl⟩:=hrel;have hb:=HS.out k
  by_cases hlt:k<zs.length
  ·obtain⟨b,off,x,rfl,hbl,hcell,hx⟩:=H.get hlt
   have hb1:=HS.out (k+1);rw[zG hlt,hx.out]at hb1;have hst:=mh (zG hlt)
   go_wp2
   go_round
   case rel=>exact⟨k+1,by omega,by go_num,by rw[hst.out,hx.out]⟩
   case measure=>simp[intOf];omega
  ·obtain rfl:k=zs.length:=by omega
   rw[List.take_length]at hb ⊢;clear hlt hk
   go_wp2
   have hst:=L2.start (w.drewN n) zs.length (Sh.quo t zs) (Sh.rest t zs)
   change L2 _ _ w.heap.size _ _ _ _ at hst
   have hst' := mh hst;clear hst hm
   go_loopw [52,10] (fun i l wr=>∃k:Nat,k≤zs.length∧i=I O k∧l=I O (t - Sh.sum ((List.range k).map (Sh.quo t zs)))∧L2 (w.drewN n) wr w.heap.size zs.length k (Sh.quo t zs) (Sh.rest t zs)) (fun i _ _=>zs.length - (intOf i).toNat)
   case atStart=>exact⟨0,Nat.zero_le _,rfl,by simp[Sh.sum],hst'.out⟩
   case round =>
    obtain⟨k,hk,rfl,rfl,hL⟩:=hrel;have HL:=mh hL
    by_cases hlt:k<zs.length
    ·obtain⟨b,off,x,rfl,hbl,hcell0,hx⟩:=H.get hlt
     have hcell:wr.cell? ⟨b,off+k,none⟩=some (I O x):=(hL.below.cell (p:=⟨b,off+k,none⟩) hbl).trans hcell0;have hbox:=hL.box;clear hL hcell0;have hd:=HD.out k;rw[hx.out]at hd;have Hd:=mh hd;clear hd;have hk0:(0:Int)≤(k:Int):=inn _;have hk1:(k:Int)<(zs.length:Int):=by omega
     go_wp2_with fail
     go_region_held3 (fun w' => w'.cell? ⟨w.heap.size+1+1+1,0,none⟩=some (.slice (some ⟨w.heap.size+1+1,0,none⟩) zs.length zs.length)) (first|exact(HL.places hlt hb1').2.2.2|exact gU (HL.places hlt hb1').2.2.2 (by simp;omega)|exact gU (gU (HL.places hlt hb1').2.2.2 (by simp;omega)) (by simp)|go_keep)
      (first|(go_at_call 135;refine(Hd _).mono ?_;rintro e w1 ⟨rfl,hb1⟩;have hb1' := bdrew hb1;obtain⟨⟨a1,a2⟩,⟨b1,b2⟩,⟨c1,c2⟩, -⟩:=HL.places hlt hb1'))
     have hq:=HR.quo_bd k;have hQ:=HR.quo_sum k;have ht0:=HR.ht;have ht1:=HR.ht'
     go_wp2
     go_roundw
     case rel=>exact⟨k+1,by omega,by go_num,by rw[Sh.quo_succ];congr 1;omega,HL.next hlt hb1'⟩
     case measure=>simp[intOf];omega
    ·obtain rfl:k=zs.length:=by omega
     clear hlt hk;obtain⟨e1,e2⟩:=HR.left_eq;have hlt:=HR.left_lt;have hsort:=zAA (w.heap.size+1+1+1) (w.heap.size+1+1) (w.heap.size+1) zs.length zs.length (Sh.rest t zs) wr HR.len h1 hL.lt hL.box
      (hL.rst.congr fun j hj=>by rw[if_pos hj]) (hL.ord.congr fun j hj=>by rw[if_pos hj]) (by omega) (by omega)
     have HSo:=mh hsort;rw[← e1];clear e1 e2 hsort hL
     go_wp2_with (first|(go_at_call 136;refine(HSo).mono ?_;rintro e w3 ⟨rfl,h31,h32,h33⟩))
     have h3s:L3 (w.drewN n) w3 w.heap.size zs.length 0 t zs:=by
      refine⟨HL.below.trans (h32 w.heap.size (by omega) (by have:=HL.lt;omega)),(h33 _ _ _ (by omega) HL.out.out).congr fun j hj=>?_,h31⟩
      rw[if_pos hj,Sh.top_zero];simp
     have H3:=mh h3s;clear h3s h31 h32 h33
     go_loopw [88] (fun i wr=>∃k:Nat,k≤Sh.left t zs∧i=I O k∧L3 (w.drewN n) wr w.heap.size zs.length k t zs) (fun i _=>Sh.left t zs - (intOf i).toNat)
     case atStart=>exact⟨0,Nat.zero_le _,rfl,H3.out⟩
     case round =>
      clear H3
      rename_i wr3
      obtain⟨k,hk,rfl,hL⟩:=hrel
      by_cases hlk:k<Sh.left t zs
      ·obtain⟨i,hi⟩:∃i,(Sh.order zs.length (Sh.rest t zs)).getD k 0=i:=⟨_,rfl⟩
       obtain⟨n1,n2,n3,n4,n5⟩:=hL.next (by omega) hi;have N5:=mh n5;have hq:=HR.quo_bd i;have hi0:(0:Int)≤(i:Int):=inn _;have hi1:(i:Int)<(zs.length:Int):=by omega
       clear hL n5 hi
       go_wp2
       go_roundw
       case rel=>exact⟨k+1,by omega,by go_num,N5.out⟩
       case measure=>simp[intOf];omega
      ·obtain rfl:k=Sh.left t zs:=by omega
       have hend:=mh hL;clear hL
       go_wp2
       go_ret2
       refine⟨rfl,hend.out.out,?_⟩
       exact(qQ w n).trans hend.out.below
theorem qCA (t:Int)(p:Option Addr)(zs:List Int)(cap:Nat)(w:World)(h:qR w p zs)(h1:zs.length≤64)(h2:Sh.limited t=true)(h3:(zs.any fun x => !Sh.limited x)=false)(hs:Sh.sum zs=0) :
  Calls Tryz.prog 96 #[I O t,.slice p zs.length cap] w fun e w' => e = .returned (.tuple #[.slice (some ⟨w.heap.size,0,none⟩) zs.length zs.length,I O 0])∧Row w' w.heap.size zs.length (fun _=>I O 0)∧Below w.heap.size w w' :=by
 have hl:=h.len;have hc:=fun w h=>gF p zs cap w h
 rw[h3]at hc;have HC:=mh hc;have H:=mh h;have hm:=dA zs.length (by omega);have hsum:=hU h1 h3;have HS:=mh hsum;clear hc h hsum;have Hs:=mh hs;clear hs;have hR:=fun w=>Row.made w zs.length 3 (I O 0)
 have HR:=mh hR;clear hR
 go_enter Tryz.func96,Tryz.ntmps96
 go_wp2_with (first|(go_at_call 132;refine(jC _ _).mono ?_;rintro e w' ⟨rfl,rfl⟩)|(go_at_call 133;refine(HC _ H).mono ?_;rintro e w1 ⟨rfl,n,rfl⟩))
 go_loop [6,29] (fun s i=>∃k:Nat,k≤zs.length∧i=I O k∧s=I O (Sh.sum (zs.take k))) (fun _ i=>zs.length - (intOf i).toNat)
 case atStart=>exact⟨0,Nat.zero_le _,rfl,by simp[Sh.sum]⟩
 case round =>
  obtain⟨k,hk,rfl,rfl⟩:=hrel;have hb:=HS.out k
  by_cases hlt:k<zs.length
  ·obtain⟨b,off,x,rfl,hbl,hcell,hx⟩:=H.get hlt
   have hb1:=HS.out (k+1);rw[zG hlt,hx.out]at hb1;have hst:=mh (zG hlt)
   go_wp2
   go_round
   case rel=>exact⟨k+1,by omega,by go_num,by rw[hst.out,hx.out]⟩
   case measure=>simp[intOf];omega
  ·obtain rfl:k=zs.length:=by omega
   rw[List.take_length,Hs.out];clear hlt hk
   go_wp2
   go_ret2
   exact⟨rfl,HR.out (w.drewN n),(qQ w n).alloc mle _⟩
/-! ### what Shares returns, whatever it is given -/
def shErr (t:Int) (zs:List Int):Int:=if 64<zs.length then 1 else if Sh.limited t=false∨(zs.any fun x => !Sh.limited x)=true then 2 else 0
def jD (t:Int) (zs:List Int):List Int:=if shErr t zs≠0 then [] else if Sh.sum zs=0 then List.replicate zs.length 0 else Sh.shares t zs
def kE (w:World) (l:List Int) (er:Int) (e:Ending) (w' : World):Prop :=
 ∃p cap,e = .returned (.tuple #[.slice p l.length cap,I O er])∧qR w' p l∧Below w.heap.size w w'
def zK (w:World) (l:List Int) (er:Int) (e:Ending) (w' : World):Prop :=
 ∃p cap,e = .returned (.tuple #[.slice p l.length cap,I O er])∧qR w' p l∧Below w.heap.size w w' ∧ ∀a,p=some a→w.heap.size≤a.block
theorem zK.ints {w w' : World}{l:List Int}{er:Int}{e:Ending}(h:zK w l er e w'):kE w l er e w' :=by
 obtain⟨p,c,h1,h2,h3, -⟩:=h;exact⟨p,c,h1,h2,h3⟩
theorem Own.intsN {w:World}{T:TypeId}{B:Nat}{v:Value}{xs:List Int}(h:Own w T B v xs):∃p cap,v = .slice p xs.length cap∧qR w p xs∧∀a,p=some a→B≤a.block:=by
 obtain⟨p,c,rfl,hI⟩:=h.ints;exact⟨p,c,rfl,hI,fun a e=>by subst e;exact(World.ownsRow.lt h a.block rfl).1⟩
theorem cL (t:Int)(p:Option Addr)(zs:List Int)(cap:Nat)(w:World)(h:qR w p zs) :
  Calls Tryz.prog 96 #[I O t,.slice p zs.length cap] w (zK w (jD t zs) (shErr t zs)):=by
 by_cases hb:64<zs.length∨Sh.limited t=false∨(zs.any fun x => !Sh.limited x)=true
 ·refine(zTA t p zs cap w h hb).mono fun e w' ⟨he,hw⟩=>?_
  have e1:shErr t zs=if 64<zs.length then 1 else 2:=by
   unfold shErr
   by_cases h1:64<zs.length
   ·rw[if_pos h1,if_pos h1]
   ·rw[if_neg h1,if_neg h1,if_pos (hb.resolve_left h1)]
  have e2:jD t zs = []:=by unfold jD;rw[if_pos];rw[e1];split<;>decide
  rw[e1,e2];exact⟨none,0,he,qR.nil _ _,hw,fun _ h=>by cases h⟩
 ·have h1:zs.length≤64:=by omega
  have h2:Sh.limited t=true:=by
   have:¬Sh.limited t=false:=fun h=>hb (.inr (.inl h))
   simpa using this
  have h3:(zs.any fun x => !Sh.limited x)=false:=Bool.eq_false_iff.2 fun h=>hb (.inr (.inr h))
  have e1:shErr t zs=0:=by unfold shErr;rw[if_neg (by omega),if_neg (by rw[h2,h3];simp)]
  by_cases hs:Sh.sum zs=0
  ·have e2:jD t zs=List.replicate zs.length 0:=by unfold jD;rw[e1,if_neg (by simp),if_pos hs]
   refine(qCA t p zs cap w h h1 h2 h3 hs).mono fun e w' ⟨he,hr,hw⟩=>?_
   rw[e1,e2];refine⟨some ⟨w.heap.size,0,none⟩,zs.length,by rw[he,List.length_replicate],?_,hw,fun a h=>by cases h;exact Nat.le_refl _⟩;have:=hr.ints (by unfold maxLen;omega)
   rwa [show(List.range zs.length).map (fun _=>(0:Int))=List.replicate zs.length 0 from by simp[List.map_const']]at this
  ·have e2:jD t zs=Sh.shares t zs:=by unfold jD;rw[e1,if_neg (by simp),if_neg hs]
   refine(qPA t p zs cap w h h1 h2 h3 hs).mono fun e w' ⟨he,hr,hw⟩=>?_
   rw[e1,e2];exact⟨some ⟨w.heap.size,0,none⟩,zs.length,by rw[he];simp[Sh.shares],hr.ints (by unfold maxLen;omega),hw,fun a h=>by cases h;exact Nat.le_refl _⟩
theorem zSA (t:Int)(p:Option Addr)(zs:List Int)(cap:Nat)(w:World)(h:qR w p zs) :
  Calls Tryz.prog 96 #[I O t,.slice p zs.length cap] w (kE w (jD t zs) (shErr t zs)):=(cL t p zs cap w h).mono fun _ _ h=>h.ints
end Go.Proofs.YtefcalgjnkigjaaGreat
namespace Go.Proofs.YtefcalgjnkigjaaGreat.En
def money (n:Int):Bool:=decide (0≤n)&&decide (n≤68719476736)
theorem money_iff {n:Int}:money n=true↔0≤n∧n≤68719476736:=by unfold money;simp
theorem money_not {n:Int}:money n=false↔n<0∨68719476736<n:=by
 rw[← Bool.not_eq_true,money_iff];omega
def err (e u:Int) (l:List Int):Int :=
 if money e=false then 67 else if u<1∨100000<u then 2 else if 64<l.length then 1 else if (l.any fun x => !money x)=true then 67 else 0
def units (u:Int) (l:List Int):List Int:=l.map fun x=>x / u
def usum (u:Int) (l:List Int):Int:=Sh.sum (units u l)
def paid (e u:Int) (l:List Int):List Int:=if e / u<usum u l then jD (e / u) (units u l) else units u l
def scale (e u:Int) (l:List Int):List Int:=if err e u l=0 then (paid e u l).map fun x=>x*u else []
def scaled (e u:Int) (l:List Int):Bool:=decide (err e u l=0)&&decide (e / u<usum u l)
structure Good (e u:Int) (l:List Int):Prop where
 e0:0≤e
 e1:e≤68719476736
 u0:1≤u
 u1:u≤100000
 len:l.length≤64
 all:∀x∈l,0≤x∧x≤68719476736
theorem good_of {e u:Int}{l:List Int}(h:err e u l=0):Good e u l:=by
 unfold err at h
 by_cases h1:money e=false
 ·rw[if_pos h1]at h;omega
 ·rw[if_neg h1]at h
  by_cases h2:u<1∨100000<u
  ·rw[if_pos h2]at h;omega
  ·rw[if_neg h2]at h
   by_cases h3:64<l.length
   ·rw[if_pos h3]at h;omega
   ·rw[if_neg h3]at h
    by_cases h4:(l.any fun x => !money x)=true
    ·rw[if_pos h4]at h;omega
    ·have m:=money_iff.1 (show money e=true by simpa using h1)
     refine⟨m.1,m.2,by omega,by omega,by omega,fun x hx=>money_iff.1 ?_⟩
     have h5:(l.any fun x => !money x)=false:=by simpa using h4
     rw[List.any_eq_false]at h5
     simpa using h5 x hx
theorem err_of {e u:Int}{l:List Int}(h:Good e u l):err e u l=0:=by
 have h4:(l.any fun x => !money x)=false:=by
  rw[List.any_eq_false];intro x hx;rw[money_iff.2 (h.all x hx)]
  simp
 unfold err;rw[if_neg (by rw[money_iff.2 ⟨h.e0,h.e1⟩];simp),if_neg (by have:=h.u0;have:=h.u1;omega),if_neg (by have:=h.len;omega),if_neg (by rw[h4];simp)]
variable {e u:Int} {l:List Int}
theorem Good.sum (h:Good e u l)(k:Nat):0≤Sh.sum (l.take k)∧Sh.sum (l.take k)≤4398046511104:=by
 have hx:∀x∈l.take k,0≤x∧x≤68719476736:=fun x hx=>h.all x (List.mem_of_mem_take hx)
 refine⟨Sh.sum_nonneg fun x m=>(hx x m).1,?_⟩
 have:=Sh.sum_le_len fun x m=>(hx x m).2
 have hl:(l.take k).length≤l.length:=List.length_take_le' _ _;have:=h.len;omega
theorem Good.unit (h:Good e u l):∀x∈units u l,0≤x∧x≤68719476736:=fun x hx=>by
 obtain⟨y,hy,rfl⟩:=List.mem_map.1 hx;have hb:=h.all y hy;have:=Int.ediv_le_self u hb.1;exact⟨Int.ediv_nonneg hb.1 (by have:=h.u0;omega),by omega⟩
theorem units_len:(units u l).length=l.length:=by unfold units;simp
theorem yZA (k:Nat):(units u l).take k=units u (l.take k):=by unfold units;rw[List.map_take]
theorem Good.usum (h:Good e u l)(k:Nat):0≤usum u (l.take k)∧usum u (l.take k)≤4398046511104:=by
 unfold En.usum;rw[← yZA];have hx:∀x∈(units u l).take k,0≤x∧x≤68719476736:=fun x hx=>h.unit x (List.mem_of_mem_take hx)
 refine⟨Sh.sum_nonneg fun x m=>(hx x m).1,?_⟩
 have:=Sh.sum_le_len fun x m=>(hx x m).2
 have hl:((units u l).take k).length≤(units u l).length:=List.length_take_le' _ _;rw[units_len]at hl;have:=h.len;omega
theorem units_snoc (x:Int):units u (l ++ [x])=units u l ++ [x / u]:=by unfold units;simp
theorem usum_snoc (x:Int):usum u (l ++ [x])=usum u l+x / u:=by unfold usum;rw[units_snoc,Sh.sum_snoc]
theorem take_snoc {k:Nat}(hk:k<l.length):l.take (k+1)=l.take k ++ [l.getD k 0]:=by
 rw[tsg hk,List.getD_eq_getElem?_getD,List.getElem?_eq_getElem hk];rfl
end Go.Proofs.YtefcalgjnkigjaaGreat.En
