/- Packed. -/
import Derived.Test.YtefcalgjnkigjaaGreatL0
set_option maxRecDepth 100000
set_option maxHeartbeats 4000000
open Go.Value renaming int → I
open Go.IntKind renaming i64 → O
namespace Go.Proofs.YtefcalgjnkigjaaGreat
namespace Te
open Go.Lib
/-! ### how long -/
theorem uSA {n:Int}(h0:0≤n){k:Nat}(hk:1≤k)(h:n<10 ^ k):(itoa n).length≤k:=by
 unfold itoa;rw[if_neg (by omega),decDigits_length];have key:∀(k u:Nat),u<10 ^ (k+1)→nDigits u≤k+1:=by
  intro k
  induction k with
  | zero=>intro u hu;rw[nDigits_small (by simpa using hu)];omega
  | succ k ih =>
    intro u hu
    by_cases h1:u<10
    ·rw[nDigits_small h1];omega
    ·rw[nDigits_big h1]
     have:=ih (u / 10) (by rw[Nat.pow_succ]at hu;omega);omega
 obtain⟨k,rfl⟩:∃j,k=j+1:=⟨k - 1,by omega⟩;refine key k n.toNat ?_;have e:((10 ^ (k+1):Nat):Int)=(10:Int) ^ (k+1):=by push_cast;rfl
 omega
end Te
namespace Wo
open Go.Lib
/-! ### names -/
def letB (c:UInt8):Bool:=decide (97≤(c.toNat:Int))&&decide ((c.toNat:Int)≤122)
def digB (c:UInt8):Bool:=decide (48≤(c.toNat:Int))&&decide ((c.toNat:Int)≤57)
def headB:List UInt8→Bool
 | []=>true
 | c::r=>letB c&&r.all fun c=>letB c||digB c
def nameB (l:List UInt8):Bool:=headB l&&(decide (1≤l.length)&&decide (l.length≤12))
theorem headB_snoc (l:List UInt8)(c:UInt8):headB (l ++ [c])=(headB l&&(letB c||(!l.isEmpty&&digB c))):=by
 cases l with
 | nil=>simp[headB]
 | cons a l=>simp[headB,Bool.and_assoc]
theorem headB_prefix {l m:List UInt8}(h:headB (l++m)=true):headB l=true:=by
 cases l with
 | nil=>rfl
 | cons a l =>
   simp only[List.cons_append,headB,Bool.and_eq_true,List.all_append]at h ⊢;exact⟨h.1,h.2.1⟩
theorem take_snoc_bytes (s:ByteArray)(k:Nat)(h:k<s.size):s.data.toList.take (k+1)=s.data.toList.take k ++ [s[k]]:=by
 rw[tsg (by simpa using h)];rfl
/-! ### decimal texts -/
theorem dig_toNat (d:Nat)(h:d<10):(UInt8.ofNat (48+d)).toNat=48+d:=by
 have:(48+d) % 256=48+d:=Nat.mod_eq_of_lt (by omega)
 simpa using this
def dch (d:Nat):UInt8:=UInt8.ofNat (48+d)
/-! ### the same by steps -/
theorem dV (u:Nat)(h:u<10000000000000000000):nDigits u≤19:=by
 apply Nat.le_of_not_lt
 intro hk;have:∀(k u:Nat),k+1<nDigits u→10 ^ (k+1)≤u:=by
  intro k
  induction k with
  | zero =>
    intro u hu
    by_cases h1:u<10
    ·rw[nDigits_small h1]at hu;omega
    ·omega
  | succ k ih =>
    intro u hu
    by_cases h1:u<10
    ·rw[nDigits_small h1]at hu;omega
    ·rw[nDigits_big h1]at hu
     have:=ih (u / 10) (by omega);rw[Nat.pow_succ];omega
 have:=this 18 u hk;omega
theorem itoa_len20 (n:Int)(h0 : -9223372036854775808≤n)(h1:n≤9223372036854775807):1≤(itoa n).length∧(itoa n).length≤20:=by
 unfold itoa
 split
 ·rw[List.length_cons,decDigits_length]
  have:=dV n.natAbs (by omega);omega
 ·rw[decDigits_length]
  have:=dV n.toNat (by omega);have:=nDigits_pos n.toNat;omega
end Wo
open Go.RowKit
theorem yPA {P:Program}{id:Nat}{Q:Exit→Act→World→Prop}{a:Act}{w:World}{l:List Oper}(n:Nat)(hm:P.follows .mixedOrders=true)(hB:Region.lexTailB .any l.toArray n=true)
  (h:wpStill P l.toArray w.drew (fun a' => wpList P l.toArray Q (l.drop n) a' w.drew) (l.take n) a):(Code.region id l.toArray true).wp P Q a w:=wp_region_still_tail n hm hB h
theorem Calls.turn {P:Program}{f:FuncId}{args:Array Value}{w:World}{v:Value}(h:Calls P f args w fun e w' => e = .returned v∧w=w'):Calls P f args w fun e w' => e = .returned v∧w' = w :=
 h.mono fun _ _ h=>⟨h.1,h.2.symm⟩
theorem Calls.same {P:Program}{f:FuncId}{args:Array Value}{w:World}{v:Value}(h:Calls P f args w fun e w' => e = .returned v∧w' = w):Calls P f args w fun e w' => e = .returned v∧w=w' :=
 h.mono fun _ _ h=>⟨h.1,h.2.symm⟩
theorem qA {k:IntKind}{a b:Int}(h:a=b):Ending.returned (.int k a) = .returned (.int k b):=by rw[h]
theorem qT {a b:Bool}(h:a=b):Ending.returned (.bool a) = .returned (.bool b):=by rw[h]
theorem qQ (w:World)(n:Nat):Below w.heap.size w (w.drewN n):=⟨rfl,rfl,rfl,Nat.le_refl _,fun _ _=>rfl⟩
theorem qH {B:Nat}{w W w' : World}(h:Below B w W)(hB:B≤W.heap.size)(k:Below W.heap.size W w'):Below B w w' := h.trans (k.mono hB)
theorem bdrew {w w1:World}(h:Below w.drew.heap.size w.drew w1):Below w.heap.size w w1:=⟨h.os,h.tape,h.output,h.size,h.block⟩
theorem gU {w:World}{a b:Addr}{v u:Value}(h:w.cell? b=some u)(hne:a.block≠b.block):(w.setCell a v).cell? b=some u :=
 (World.cell?_setCell_other _ _ _ _ (fun e=>hne (congrArg Addr.block e))).trans h
theorem qE (w:World)(a b:Nat):(w.drewN a).drewN b=w.drewN (a+b):=by simp[World.drewN,Nat.add_assoc]
def tM (n:Int) (w:World) (e:Ending) (w' : World):Prop:=e = .returned (.string ⟨(Lib.itoa n).toArray⟩)∧Below w.heap.size w w'
theorem nN {a b:ByteArray}(h:a=b):Ending.returned (.string a) = .returned (.string b):=by rw[h]
theorem jRA {n:Int}(h0:0≤n)(h:n<10):Lib.itoa n = [Wo.dch (n.toNat)]:=by
 unfold Lib.itoa;rw[if_neg (by omega),Lib.decDigits,dif_pos (by omega)]
 rfl
theorem bF (W:World)(b d:Nat)(hd:d<10)(h:W.cell? ⟨b,0,none⟩=some (.int .u8 (48+(d:Int)))):(convert 216 9 (.slice (some ⟨b,0,none⟩) 1 1)).run Tryz.prog W = .ok (.string ⟨#[Wo.dch (d)]⟩) W:=by
 have e:(Wo.dch d).toNat=48+d:=Wo.dig_toNat d hd
 have:=run_convert_bytes_back (P:=Tryz.prog) W 216 9 5 ⟨b,0,none⟩ 1 [Wo.dch (d)] Tryz.underlying216 Tryz.underlying5 Tryz.underlying9 (fun j hj=>by
  match j,hj with
  | 0,_ =>
    show W.cell? ⟨b,0,none⟩=some (.int .u8 (((Wo.dch (d)).toNat:Nat):Int))
    rw[h,e];simp)
 exact this
theorem app1 (l:List UInt8)(c:UInt8):(⟨l.toArray⟩:ByteArray)++⟨#[c]⟩=⟨(l ++ [c]).toArray⟩:=by rw[ByteArray.mk_append_mk]
theorem kLA {n:Int}(h:10≤n):Lib.itoa n=Lib.itoa (n / 10) ++ [Wo.dch ((n % 10).toNat)]:=by
 unfold Lib.itoa;rw[if_neg (by omega),if_neg (by omega),Lib.decDigits,dif_neg (by omega)];have e1:n.toNat / 10=(n / 10).toNat:=by omega
 have e2:n.toNat % 10=(n % 10).toNat:=by omega
 rw[e1,e2]
 rfl
theorem xTA {u:Nat}(h0:0<u)(h:u<10):Lib.itoa (-(u:Int)) = [45,Wo.dch u]:=by
 unfold Lib.itoa;rw[if_pos (by omega),show(-(u:Int)).natAbs=u by omega,Lib.decDigits,dif_pos h]
 rfl
theorem xRA {u:Nat}(h:10≤u):Lib.itoa (-(u:Int))=Lib.itoa (-((u / 10:Nat):Int)) ++ [Wo.dch (u % 10)]:=by
 unfold Lib.itoa;rw[if_pos (by omega),if_pos (by omega),show(-(u:Int)).natAbs=u by omega,show(-((u / 10:Nat):Int)).natAbs=u / 10 by omega,Lib.decDigits,dif_neg (by omega)]
 rfl
theorem cN (N:Nat):∀(n:Int) (w:World),n.natAbs<N → -9223372036854775808≤n→n≤9223372036854775807→Calls Tryz.prog 117 #[I O n] w (tM n w):=by
 induction N with
 | zero=>intro n w h;omega
 | succ N ih =>
   intro n w h h0 h1
   by_cases hn:n<0
   ·by_cases h10 : -10<n
    ·obtain⟨d,rfl⟩:∃d:Nat,n = -(d:Int):=⟨n.natAbs,by omega⟩
     have HS:=mh (xTA (u:=d) (by omega) (by omega));have hb:IntKind.u8.wrap (48+(d:Int))=48+d:=by rw[IntWalk.u8_in];omega
     have hq2:(-(d:Int)).tmod 10 = -(d:Int):=by rw[Int.neg_tmod,Int.tmod_eq_emod_of_nonneg (by omega)];omega
     have CV:=bF (w.alloc (Obj.cells #[.int .u8 (48+(d:Int))] 5)) w.heap.size d (by omega) (by go_simp);clear ih h h0 h1
     go_enter Tryz.func117,Tryz.ntmps117
     go_wp2
     go_ret
     exact⟨nN (by rw[HS.out];rfl),(brf _ _).alloc mle _⟩
    ·obtain⟨q,m,rfl,hm10⟩:∃q m:Nat,n = -((10*q+m:Nat):Int)∧m<10:=⟨n.natAbs / 10,n.natAbs % 10,by omega,by omega⟩
     have hd:Lib.itoa (-((10*q+m:Nat):Int))=Lib.itoa (-(q:Int)) ++ [Wo.dch m]:=by
      rw[xRA (by omega),show(10*q+m) / 10=q by omega,show(10*q+m) % 10=m by omega]
     have HI:=mh (fun (W:World)=>ih (-(q:Int)) W (by omega) (by omega) (by omega));obtain⟨sq,esq⟩:∃x:ByteArray,(⟨(Lib.itoa (-(q:Int))).toArray⟩:ByteArray)=x:=⟨_,rfl⟩;have hsz:sq.size+1≤9223372036854775807:=by
      have:=(Wo.itoa_len20 (-(q:Int)) (by omega) (by omega)).2;rw[← esq];show(Lib.itoa (-(q:Int))).toArray.size+1≤_;simp;omega
     have ES:=mh esq;clear esq;have HF:=mh (show sq++⟨#[Wo.dch m]⟩=⟨(Lib.itoa (-((10*q+m:Nat):Int))).toArray⟩ by rw[hd,← ES.out,app1]);have hq1:(-((10*q+m:Nat):Int)).tdiv 10 = -(q:Int):=by rw[Int.neg_tdiv,Int.tdiv_eq_ediv_of_nonneg (by omega)];omega
     have hq2:(-((10*q+m:Nat):Int)).tmod 10 = -(m:Int):=by rw[Int.neg_tmod,Int.tmod_eq_emod_of_nonneg (by omega)];omega
     have hq0:(0:Int)≤q:=by omega
     obtain⟨n,en⟩:∃n:Int, -((10*q+m:Nat):Int)=n:=⟨_,rfl⟩;have hb:IntKind.u8.wrap (48+(m:Int))=48+m:=by rw[IntWalk.u8_in];omega
     have hb2:IntKind.i64.wrap (48+(m:Int))=48+m:=IntWalk.i64_in _ ⟨by omega,by omega⟩;have hb3:IntKind.i64.wrap (-(q:Int)) = -(q:Int):=IntWalk.i64_in _ ⟨by omega,by omega⟩;have hb4:IntKind.i64.wrap (m:Int)=m:=IntWalk.i64_in _ ⟨by omega,by omega⟩;have hn' : n<0:=by omega
     have h10' : ¬ -10<n:=by omega
     have CA:=bF ((w.alloc (Obj.cells #[.int .u8 (48+(m:Int))] 5)).drew) w.heap.size m hm10 (by go_simp);have CH:((w.alloc (Obj.cells #[.int .u8 (48+(m:Int))] 5)).drew).cell? ⟨w.heap.size,0,none⟩=some (.int .u8 (48+(m:Int))):=by go_simp
     have HC:=mh CH;clear CH;rw[en]at hd hq1 hq2 h0 h1;rw[en]at HF;rw[en];clear hd ih h en hn h10 h0 h1
     go_enter Tryz.func117,Tryz.ntmps117
     go_wp2_with fail
     go_region_with (first|(go_at_call 117;(with_reducible refine cmo (HI.out w.drew) ?_);rintro e w1 ⟨rfl,hb1⟩;rw[ES.out];have CW:=bF (w1.alloc (Obj.cells #[.int .u8 (48+(m:Int))] 5)) w1.heap.size m hm10 (by go_simp))|(go_at_call 117;(with_reducible refine cmo (HI.out ((w.alloc (Obj.cells #[.int .u8 (48+(m:Int))] 5)).drew)) ?_);rintro e w1 ⟨rfl,hb1⟩;rw[ES.out];have CW:=bF w1 w.heap.size m hm10 ((hb1.cell (p:=⟨w.heap.size,0,none⟩) (by simp)).trans HC)))
     all_goals
      go_wp2
      go_ret
      refine⟨nN HF.out,?_⟩
      first
       | exact((brf _ w).drew.trans (hb1.mono mle)).alloc (by have:=hb1.size;simpa using this) _
       | exact(((brf _ w).alloc mle _).drew).trans (hb1.mono (by simp))
   ·by_cases h10:n<10
    ·obtain⟨d,rfl⟩:∃d:Nat,n=d:=⟨n.toNat,by omega⟩
     have HS:=mh (jRA (n:=d) (by omega) h10);have hb:IntKind.u8.wrap (48+(d:Int))=48+d:=by rw[IntWalk.u8_in];omega
     have CV:=bF (w.alloc (Obj.cells #[.int .u8 (48+(d:Int))] 5)) w.heap.size d (by omega) (by go_simp);clear ih h h0 h1
     go_enter Tryz.func117,Tryz.ntmps117
     go_wp2
     go_ret
     exact⟨nN (by rw[HS.out];rfl),(brf _ _).alloc mle _⟩
    ·obtain⟨q,m,rfl,hm10⟩:∃q m:Nat,n=10*(q:Int)+m∧m<10:=⟨(n / 10).toNat,(n % 10).toNat,by omega,by omega⟩
     have hd:Lib.itoa (10*(q:Int)+m)=Lib.itoa q ++ [Wo.dch m]:=by
      rw[kLA (by omega),show(10*(q:Int)+m) / 10=q by omega,show((10*(q:Int)+m) % 10).toNat=m by omega]
     have HI:=mh (fun (W:World)=>ih (q:Int) W (by omega) (by omega) (by omega));obtain⟨sq,esq⟩:∃x:ByteArray,(⟨(Lib.itoa q).toArray⟩:ByteArray)=x:=⟨_,rfl⟩;have hsz:sq.size+1≤9223372036854775807:=by
      have:=(Wo.itoa_len20 (q:Int) (by omega) (by omega)).2;rw[← esq];show(Lib.itoa (q:Int)).toArray.size+1≤_;simp;omega
     have ES:=mh esq;clear esq;have HF:=mh (show sq++⟨#[Wo.dch m]⟩=⟨(Lib.itoa (10*(q:Int)+m)).toArray⟩ by rw[hd,← ES.out,app1]);have hq1:(10*(q:Int)+m).tdiv 10=q:=by rw[Int.tdiv_eq_ediv_of_nonneg (by omega)];omega
     have hq2:(10*(q:Int)+m).tmod 10=m:=by rw[Int.tmod_eq_emod_of_nonneg (by omega)];omega
     have hq0:(0:Int)≤q:=by omega
     obtain⟨n,en⟩:∃n:Int,10*(q:Int)+m=n:=⟨_,rfl⟩;have hb:IntKind.u8.wrap (48+(m:Int))=48+m:=by rw[IntWalk.u8_in];omega
     have hb2:IntKind.i64.wrap (48+(m:Int))=48+m:=IntWalk.i64_in _ ⟨by omega,by omega⟩;have hb3:IntKind.i64.wrap (q:Int)=q:=IntWalk.i64_in _ ⟨by omega,by omega⟩;have hb4:IntKind.i64.wrap (m:Int)=m:=IntWalk.i64_in _ ⟨by omega,by omega⟩;have hn' : ¬n<0:=by omega
     have h10' : ¬n<10:=by omega
     have CA:=bF ((w.alloc (Obj.cells #[.int .u8 (48+(m:Int))] 5)).drew) w.heap.size m hm10 (by go_simp);have CH:((w.alloc (Obj.cells #[.int .u8 (48+(m:Int))] 5)).drew).cell? ⟨w.heap.size,0,none⟩=some (.int .u8 (48+(m:Int))):=by go_simp
     have HC:=mh CH;clear CH;rw[en]at hd hq1 hq2 h0 h1;rw[en]at HF;rw[en];clear hd ih h en hn h10 h0 h1
     go_enter Tryz.func117,Tryz.ntmps117
     go_wp2_with fail
     go_region_with (first|(go_at_call 117;(with_reducible refine cmo (HI.out w.drew) ?_);rintro e w1 ⟨rfl,hb1⟩;rw[ES.out];have CW:=bF (w1.alloc (Obj.cells #[.int .u8 (48+(m:Int))] 5)) w1.heap.size m hm10 (by go_simp))|(go_at_call 117;(with_reducible refine cmo (HI.out ((w.alloc (Obj.cells #[.int .u8 (48+(m:Int))] 5)).drew)) ?_);rintro e w1 ⟨rfl,hb1⟩;rw[ES.out];have CW:=bF w1 w.heap.size m hm10 ((hb1.cell (p:=⟨w.heap.size,0,none⟩) (by simp)).trans HC)))
     all_goals
      go_wp2
      go_ret
      refine⟨nN HF.out,?_⟩
      first
       | exact((brf _ w).drew.trans (hb1.mono mle)).alloc (by have:=hb1.size;simpa using this) _
       | exact(((brf _ w).alloc mle _).drew).trans (hb1.mono (by simp))
open Te
theorem zWA (n:Int)(w:World)(h0 : -9223372036854775808≤n)(h1:n≤9223372036854775807):Calls Tryz.prog 117 #[I O n] w (tM n w):=cN (n.natAbs+1) n w (by omega) h0 h1
theorem kH {l:List UInt8}{k:Nat}(h:Wo.headB (l.take k)=false):Wo.nameB l=false:=by
 have:Wo.headB l=false:=by
  cases e:Wo.headB l with
  | false=>rfl
  | true =>
    rw[← List.take_append_drop k l]at e;rw[Wo.headB_prefix e]at h
    cases h
 unfold Wo.nameB;rw[this];rfl
theorem dK {a b:Bool}(h:a=b):Ending.returned (.bool a) = .returned (.bool b):=by rw[h]
theorem gG (c:UInt8):((c.toNat:Int)<48∧Wo.letB c=false∧Wo.digB c=false)∨(48≤(c.toNat:Int)∧(c.toNat:Int)≤57∧Wo.letB c=false∧Wo.digB c=true)∨(58≤(c.toNat:Int)∧(c.toNat:Int)<97∧Wo.letB c=false∧Wo.digB c=false)∨(97≤(c.toNat:Int)∧(c.toNat:Int)≤122∧Wo.letB c=true∧Wo.digB c=false)∨(122<(c.toNat:Int)∧Wo.letB c=false∧Wo.digB c=false):=by
 simp only[Wo.letB,Wo.digB,Bool.and_eq_true,Bool.and_eq_false_iff,decide_eq_true_eq,decide_eq_false_iff_not];omega
def lJ (l:List UInt8) (w:World) (e:Ending) (w' : World):Prop:=e = .returned (.bool (Wo.nameB l))∧w=w'
theorem gDA (s:ByteArray)(w:World)(hs:s.size≤9223372036854775807) :
  Calls Tryz.prog 120 #[.string s] w (lJ s.data.toList w):=by
 go_enter Tryz.func120,Tryz.ntmps120
 go_wp2
 go_loop [8] (fun i=>∃k:Nat,k≤s.size∧i=I O k∧Wo.headB (s.data.toList.take k)=true) (fun i=>s.size - (intOf i).toNat)
 case atStart=>exact⟨0,Nat.zero_le _,rfl,rfl⟩
 case round =>
  obtain⟨k,hk,rfl,hh⟩:=hrel;have HH:=mh hh;clear hh;have hk0:(0:Int)≤(k:Int):=inn _
  by_cases hlt:k<s.size
  ·have HS:=mh (show Wo.headB (s.data.toList.take (k+1))=(Wo.letB s[k]||(decide (0<k)&&Wo.digB s[k])) by
    rw[Wo.take_snoc_bytes s k hlt,Wo.headB_snoc,HH.out,Bool.true_and];have:(!(s.data.toList.take k).isEmpty)=decide (0<k):=by
     rw[Bool.eq_iff_iff];simp only[Bool.not_eq_true', List.isEmpty_eq_false_iff,ne_eq,List.take_eq_nil_iff,decide_eq_true_eq,not_or];have:s.data.toList ≠ []:=fun e=>by have h9:=congrArg List.length e;rw[Array.length_toList]at h9;have:s.size=0:=h9;omega
     constructor
     ·intro h;omega
     ·intro h;exact⟨by omega,this⟩
    rw[this])
   rcases Nat.eq_zero_or_pos k with h0|hpos
   ·have e0:((k:Int)==0)=true:=by rw[h0];rfl
    have HZ:=mh h0;clear h0
    rcases gG s[k] with⟨c1,l1,d1⟩|⟨c1,c2,l1,d1⟩|⟨c1,c2,l1,d1⟩|⟨c1,c2,l1,d1⟩|⟨c1,l1,d1⟩
    all_goals
     rw[l1,d1,show decide (0<k)=false by rw[HZ.out];rfl]at HS;clear l1 d1
     first
      | have b2:decide ((s[k].toNat:Int)≤57)=true:=dqt (by omega)
      | have b2:decide ((s[k].toNat:Int)≤57)=false:=dqf (by omega)
     first
      | have b3:decide ((s[k].toNat:Int)≤122)=true:=dqt (by omega)
      | have b3:decide ((s[k].toNat:Int)≤122)=false:=dqf (by omega)
     go_wp2
     first
      | (go_round
         case rel=>exact⟨k+1,by omega,by go_num,HS.out⟩
         case measure=>simp[intOf];omega)
      | (go_ret
         exact⟨dK (kH HS).symm,rfl⟩)
   ·have e0:((k:Int)==0)=false:=by simp;omega
    have ez:decide (0<k)=true:=by simpa using hpos
    rcases gG s[k] with⟨c1,l1,d1⟩|⟨c1,c2,l1,d1⟩|⟨c1,c2,l1,d1⟩|⟨c1,c2,l1,d1⟩|⟨c1,l1,d1⟩
    all_goals
     rw[l1,d1,ez]at HS;clear l1 d1 ez
     first
      | have b2:decide ((s[k].toNat:Int)≤57)=true:=dqt (by omega)
      | have b2:decide ((s[k].toNat:Int)≤57)=false:=dqf (by omega)
     first
      | have b3:decide ((s[k].toNat:Int)≤122)=true:=dqt (by omega)
      | have b3:decide ((s[k].toNat:Int)≤122)=false:=dqf (by omega)
     go_wp2
     first
      | (go_round
         case rel=>exact⟨k+1,by omega,by go_num,HS.out⟩
         case measure=>simp[intOf];omega)
      | (go_ret
         exact⟨dK (kH HS).symm,rfl⟩)
  ·obtain rfl:k=s.size:=by omega
   have HN:=mh (show Wo.nameB s.data.toList=(decide (1≤s.size)&&decide (s.size≤12)) by
    unfold Wo.nameB;have h:=HH.out;rw[List.take_of_length_le (by rw[Array.length_toList];exact Nat.le_refl _)]at h
    rw[h,Bool.true_and,Array.length_toList];rfl)
   by_cases h1:(1:Int)≤(s.size:Int)
   ·by_cases h2:(s.size:Int)≤12
    all_goals
     go_wp2
     go_ret
     exact⟨dK (by rw[HN.out];simp<;>omega),rfl⟩
   ·go_wp2
    go_ret
    exact⟨dK (by rw[HN.out];simp<;>omega),rfl⟩
theorem eL {l:List UInt8}(h:l.length<1∨12<l.length):Wo.nameB l=false:=by
 unfold Wo.nameB;have:(decide (1≤l.length)&&decide (l.length≤12))=false:=by
  rw[Bool.and_eq_false_iff,decide_eq_false_iff_not,decide_eq_false_iff_not];omega
 rw[this,Bool.and_false]
theorem qHA (s:ByteArray)(w:World)(hs:s.size≤9223372036854775807) :
  Calls Tryz.prog 125 #[.string s] w (lJ s.data.toList w):=by
 have hlen:s.data.toList.length=s.size:=by rw[Array.length_toList];rfl
 by_cases h1:s.size<1
 ·have HN:=mh (eL (l:=s.data.toList) (.inl (by omega)))
  have h1' : (s.size:Int)<1:=by omega
  clear h1 hlen
  go_enter Tryz.func125,Tryz.ntmps125
  go_wp2
  go_ret
  exact⟨dK HN.symm,rfl⟩
 have g1:¬(s.size:Int)<1:=by omega
 by_cases h2:12<s.size
 ·have HN:=mh (eL (l:=s.data.toList) (.inr (by omega)))
  have h2' : (12:Int)<(s.size:Int):=by omega
  clear h1 h2 hlen
  go_enter Tryz.func125,Tryz.ntmps125
  go_wp2
  go_ret
  exact⟨dK HN.symm,rfl⟩
 have g2:¬(12:Int)<(s.size:Int):=by omega
 have h0:0<s.size:=by omega
 have H1:=mh (show Wo.headB (s.data.toList.take 1)=Wo.letB s[0] by
  rw[Wo.take_snoc_bytes s 0 h0,Wo.headB_snoc];simp[Wo.headB])
 have HN:=mh (show Wo.headB s.data.toList=true→Wo.nameB s.data.toList=true by
  intro h;unfold Wo.nameB
  rw[h,Bool.true_and,Bool.and_eq_true,decide_eq_true_eq,decide_eq_true_eq,hlen];omega)
 have hlen' := mh hlen;clear h1 h2 hlen
 cases hl:Wo.letB s[0]
 ·have HF:=mh (kH (l:=s.data.toList) (k:=1) (by rw[H1.out,hl]))
  rcases gG s[0] with⟨c1,l1,d1⟩|⟨c1,c2,l1,d1⟩|⟨c1,c2,l1,d1⟩|⟨c1,c2,l1,d1⟩|⟨c1,l1,d1⟩
  all_goals first|(rw[hl]at l1;cases l1;done)|skip
  all_goals
   clear l1 d1 hl
   go_enter Tryz.func125,Tryz.ntmps125
   go_wp2
   go_ret
   exact⟨dK HF.symm,rfl⟩
 ·have HL:=mh hl
  have hh:97≤((s[0]).toNat:Int)∧((s[0]).toNat:Int)≤122:=by
   simp only[Wo.letB,Bool.and_eq_true,decide_eq_true_eq]at hl;exact hl
  obtain⟨c1,c2⟩:=hh;clear hl
  go_enter Tryz.func125,Tryz.ntmps125
  go_wp2
  clear c1 c2
  go_loop [3] (fun i=>∃k:Nat,k≤s.size∧i=I O k∧Wo.headB (s.data.toList.take k)=true) (fun i=>s.size - (intOf i).toNat)
  case atStart=>exact⟨0,Nat.zero_le _,rfl,rfl⟩
  case round =>
   obtain⟨k,hk,rfl,hh⟩:=hrel;have HH:=mh hh;clear hh;have hk0:(0:Int)≤(k:Int):=inn _
   by_cases hlt:k<s.size
   ·have HS:=mh (show Wo.headB (s.data.toList.take (k+1))=(Wo.letB s[k]||Wo.digB s[k]) by
     rcases Nat.eq_zero_or_pos k with h0|hpos
     ·subst h0
      rw[H1.out,HL.out];rfl
     ·rw[Wo.take_snoc_bytes s k hlt,Wo.headB_snoc,HH.out,Bool.true_and]
      have:(s.data.toList.take k).isEmpty=false:=by
       rw[List.isEmpty_eq_false_iff,ne_eq,List.take_eq_nil_iff,not_or];exact⟨by omega,fun e=>by have h9:s.data.toList.length=0:=(by rw[e];rfl);rw[hlen'.out]at h9;omega⟩
      rw[this];rfl)
    rcases gG s[k] with⟨c1,l1,d1⟩|⟨c1,c2,l1,d1⟩|⟨c1,c2,l1,d1⟩|⟨c1,c2,l1,d1⟩|⟨c1,l1,d1⟩
    all_goals
     rw[l1,d1]at HS;clear l1 d1
     go_wp2
     first
      | (go_round
         case rel=>exact⟨k+1,by omega,by go_num,HS.out⟩
         case measure=>simp[intOf];omega)
      | (go_ret
         exact⟨dK (kH HS).symm,rfl⟩)
   ·obtain rfl:k=s.size:=by omega
    have HE:=mh (HN (by have h:=HH.out;rwa [List.take_of_length_le (by rw[Array.length_toList];exact Nat.le_refl _)]at h))
    go_wp2
    go_ret
    exact⟨dK HE.symm,rfl⟩
theorem bdrew' {B:Nat}{w w1:World}(h:Below B w.drew w1):Below B w w1:=⟨h.os,h.tape,h.output,h.size,h.block⟩
theorem qZ {B:Nat}{w w1 w2:World}(hs:B≤w.heap.size)(h:Below B w w1)(h2:Below w1.heap.size w1 w2):Below B w w2:=qH h (Nat.le_trans hs h.size) h2
theorem qK {B:Nat}{w w1:World}(hs:B≤w.heap.size)(h:Below B w w1)(o:Obj):Below B w (w1.alloc o):=h.alloc (Nat.le_trans hs h.size) o
structure jJ (α:Type) where
 k:Nat
 cells:α→List Value
 len:∀a,(cells a).length=k
 pos:0<k
 one:∀a,∀u∈cells a,u.oneCell' = true
variable {α:Type} (S:jJ α)
def jJ.flat (L:List α):List Value:=L.flatMap S.cells
theorem jJ.flat_len (L:List α):(S.flat L).length=L.length*S.k:=by
 induction L with
 | nil=>simp[jJ.flat]
 | cons a L ih =>
   show(S.cells a++S.flat L).length=_
   rw[lap,ih,S.len,List.length_cons,Nat.add_mul];omega
theorem jJ.flat_append (L M:List α):S.flat (L++M)=S.flat L++S.flat M:=by unfold jJ.flat;rw[List.flatMap_append]
theorem jJ.flat_single (a:α):S.flat [a]=S.cells a:=by simp[jJ.flat]
theorem jJ.flat_at (L:List α)(j:Nat)(hj:j<L.length)(i:Nat)(hi:i<S.k):(S.flat L)[j*S.k+i]?=(S.cells L[j])[i]?:=by
 induction L generalizing j with
 | nil=>simp at hj
 | cons a L ih =>
   show(S.cells a++S.flat L)[j*S.k+i]?=_
   match j with
   | 0=>rw[List.getElem?_append_left (by rw[S.len];omega)];simp
   | j+1 =>
     rw[List.getElem?_append_right (by rw[S.len,Nat.add_mul];omega),S.len];have e:(j+1)*S.k+i - S.k=j*S.k+i:=by rw[Nat.add_mul];omega
     rw[e,ih j (by simpa using hj)]
     simp
theorem jJ.flat_set (L:List α)(j:Nat)(hj:j<L.length)(i:Nat)(hi:i<S.k)(u:Value)(a:α)(h:S.cells a=(S.cells L[j]).set i u):(S.flat L).set (j*S.k+i) u=S.flat (L.set j a):=by
 induction L generalizing j with
 | nil=>simp at hj
 | cons b L ih =>
   match j with
   | 0 =>
     show(S.cells b++S.flat L).set (0*S.k+i) u=S.cells a++S.flat L
     rw[List.set_append_left _ _ (by rw[S.len];omega),h]
     simp
   | j+1 =>
     show(S.cells b++S.flat L).set ((j+1)*S.k+i) u=S.cells b++S.flat (L.set j a)
     rw[List.set_append_right _ _ (by rw[S.len,Nat.add_mul];omega),S.len];have e:(j+1)*S.k+i - S.k=j*S.k+i:=by rw[Nat.add_mul];omega
     rw[e,ih j (by simpa using hj) (by simpa using h)]
theorem jJ.flat_ones (L:List α):∀u∈S.flat L,u.oneCell' = true:=fun u hu=>by
 obtain⟨a, -,ha⟩:=List.mem_flatMap.1 hu;exact S.one a u ha
theorem jJ.flat_cut (L:List α)(m:Nat)(h:m≤L.length):S.flat L=S.flat (L.take m)++S.flat (L.drop m)∧(S.flat (L.take m)).length=m*S.k :=
 ⟨by rw[← S.flat_append,List.take_append_drop],by rw[S.flat_len,List.length_take,Nat.min_eq_left h]⟩
theorem jJ.flat_take (L:List α)(m:Nat):S.flat (L.take m)=(S.flat L).take (m*S.k):=by
 by_cases h:m≤L.length
 ·obtain⟨e,l⟩:=S.flat_cut L m h
  rw[e,← l,List.take_left]
 ·rw[List.take_of_length_le (by omega:L.length≤m),List.take_of_length_le (by rw[S.flat_len];exact Nat.mul_le_mul_right _ (by omega))]
theorem jJ.flat_drop (L:List α)(m:Nat)(h:m≤L.length):S.flat (L.drop m)=(S.flat L).drop (m*S.k):=by
 obtain⟨e,l⟩:=S.flat_cut L m h;rw[e,← l,List.drop_left]
def qD (w:World) (p:Option Addr) (L:List α):Prop :=
 L.length≤maxLen∧(L = []∨∃b off,p=some ⟨b,off,none⟩∧b<w.heap.size∧∀n u,(S.flat L)[n]?=some u→w.cell? ⟨b,off+n,none⟩=some u)
variable {S}
theorem qD.nil (w:World)(p:Option Addr):qD S w p []:=⟨by simp,.inl rfl⟩
theorem qD.below {w w' : World}{p:Option Addr}{L:List α}(h:qD S w p L)(hb:Below w.heap.size w w'):qD S w' p L:=by
 refine⟨h.1,?_⟩
 rcases h.2 with h|⟨b,off,hp,hl,hc⟩
 ·exact .inl h
 ·exact .inr ⟨b,off,hp,nll hl hb.size,fun n u hu=>(hb.cell (p:=⟨b,off+n,none⟩) hl).trans (hc n u hu)⟩
theorem qD.len {w:World}{p:Option Addr}{L:List α}(h:qD S w p L):L.length≤9223372036854775807:=by
 have:=h.1;unfold maxLen at this;omega
theorem qD.at {w:World}{p:Option Addr}{L:List α}(h:qD S w p L){k:Nat}(hk:k<L.length) :
  ∃b off,p=some ⟨b,off,none⟩∧b<w.heap.size∧∀i u,(S.cells L[k])[i]?=some u→w.cell? ⟨b,off+k*S.k+i,none⟩=some u:=by
 rcases h.2 with rfl|⟨b,off,hp,hl,hc⟩
 ·simp at hk
 ·refine⟨b,off,hp,hl,fun i u hu=>?_⟩
  have hi:i<S.k:=by rw[← S.len L[k]];exact(List.getElem?_eq_some_iff.1 hu).1
  rw[Nat.add_assoc];exact hc _ _ ((S.flat_at L k hk i hi).trans hu)
theorem qD.take {w:World}{p:Option Addr}{L:List α}(h:qD S w p L)(m:Nat):qD S w p (L.take m):=by
 refine⟨by rw[List.length_take];have:=h.1;omega,?_⟩
 rcases h.2 with rfl|⟨b,off,hp,hl,hc⟩
 ·exact .inl (by simp)
 ·exact .inr ⟨b,off,hp,hl,fun n u hu=>hc n u (by
   rw[S.flat_take,List.getElem?_take]at hu
   split at hu
   ·exact hu
   ·cases hu)⟩
theorem qD.of_cells {w:World}{b off:Nat}{L:List α}(hm:L.length≤maxLen)(hb:b<w.heap.size)(h:∀n u,(S.flat L)[n]?=some u→w.cell? ⟨b,off+n,none⟩=some u):qD S w (some ⟨b,off,none⟩) L :=
 ⟨hm,.inr ⟨b,off,rfl,hb,h⟩⟩
theorem qD.lit (w:World)(T:TypeId)(L:List α)(hl:L.length≤maxLen):qD S (w.alloc (.cells (S.flat L).toArray T)) (some ⟨w.heap.size,0,none⟩) L:=by
 refine qD.of_cells hl (by simp) fun j u hu=>?_
 rw[Nat.zero_add,cwn]
 simpa using hu
/-! ### rows of the call's own -/
variable (S)
def qX (w:World) (T:TypeId) (B:Nat) (v:Value) (L:List α):Prop:=w.ownsRow B T S.k v L.length (S.flat L)
structure fP (P:Program) (T TS:TypeId) (bytes:Nat):Prop where
 ex:∃i0 z,P.info? T=some i0∧i0.zero=some z∧i0.size=S.k∧i0.bytes=bytes∧z.cells.size=S.k
 ts:P.underlying TS=some (.slice T)
variable {S}
theorem qX.nil (w:World)(T:TypeId)(B:Nat):qX S w T B (.slice none 0 0) []:=World.ownsRow_nil w B T S.k
theorem qX.blocks {w w' : World}{T:TypeId}{B:Nat}{v:Value}{L:List α}(h:qX S w T B v L)(hb:∀g,v.ownBlock=some g→B≤g→g<w.heap.size→w'.heap[g]?=w.heap[g]?):qX S w' T B v L:=by
 refine⟨h.1,?_⟩
 rcases h.2 with hn|⟨g,cap,cur,h1,h2,h3,h4⟩
 ·exact .inl hn
 ·exact .inr ⟨g,cap,cur,h1,h2,(hb g (by rw[h1];rfl) h2 (Array.getElem?_eq_some_iff.1 h3).1).trans h3,h4⟩
theorem qX.below {w w' : World}{T:TypeId}{B:Nat}{v:Value}{L:List α}(h:qX S w T B v L)(hb:Below w.heap.size w w'):qX S w' T B v L:=h.blocks fun g _ _ hg=>hb.block g hg
theorem qX.drew {w:World}{T:TypeId}{B:Nat}{v:Value}{L:List α}(h:qX S w T B v L):qX S w.drew T B v L:=h.blocks fun _ _ _ _=>rfl
theorem qX.mono {w:World}{T:TypeId}{B B' : Nat}{v:Value}{L:List α}(h:qX S w T B v L)(hB:B' ≤ B):qX S w T B' v L:=by
 refine⟨h.1,?_⟩
 rcases h.2 with hn|⟨g,cap,cur,h1,h2,h3,h4⟩
 ·exact .inl hn
 ·exact .inr ⟨g,cap,cur,h1,by omega,h3,h4⟩
theorem qX.lt {w:World}{T:TypeId}{B:Nat}{v:Value}{L:List α}(h:qX S w T B v L){g:Nat}(hg:v.ownBlock=some g):B≤g∧g<w.heap.size:=World.ownsRow.lt h g hg
theorem qX.cut {w:World}{T:TypeId}{B:Nat}{v:Value}{L:List α}(h:qX S w T B v L){n:Nat}(hn:L.length=n) :
  ∃p c,v = .slice p n c∧(p=none→c=0∧n=0)∧(∀x,p=some x→x.off=0∧x.spot=none∧B≤x.block∧x.block<w.heap.size)∧n≤c∧c≤maxLen∧qD S w p L:=by
 subst hn
 rcases h.2 with⟨hv,hn⟩|⟨g,cap,cur,hv,hB,hg,hle,hm,hs,ht⟩
 ·obtain rfl:=List.length_eq_zero_iff.1 hn
  exact⟨none,0,hv,fun _=>⟨rfl,rfl⟩,fun x hx=>(by cases hx),(by simp),(by unfold maxLen;omega),qD.nil _ _⟩
 ·refine⟨_,cap,hv,fun h=>by (cases h),fun x hx=>?_,hle,hm,⟨by omega,.inr ⟨g,0,rfl,(Array.getElem?_eq_some_iff.1 hg).1,fun j u hu=>?_⟩⟩⟩
  ·cases hx
   exact⟨rfl,rfl,hB,(Array.getElem?_eq_some_iff.1 hg).1⟩
  ·have hj:j<L.length*S.k:=by rw[← S.flat_len];exact(List.getElem?_eq_some_iff.1 hu).1
   have:=congrArg (fun l=>l[j]?) ht;simp only[List.getElem?_take,if_pos hj]at this;rw[hu]at this;rw[Nat.zero_add];simp only[World.cell?,hg]
   simpa using this
theorem qX.at {w:World}{T:TypeId}{B c n:Nat}{p:Option Addr}{L:List α}(h:qX S w T B (.slice p n c) L){k:Nat}(hk:k<L.length) :
  ∃g,p=some ⟨g,0,none⟩∧n=L.length∧B≤g∧g<w.heap.size∧(∀i u,(S.cells L[k])[i]?=some u→w.cell? ⟨g,k*S.k+i,none⟩=some u)∧(∀i,w.frozen? ⟨g,i,none⟩=false) ∧
    (∀i u a,i<S.k→S.cells a=(S.cells L[k]).set i u→qX S (w.setCell ⟨g,k*S.k+i,none⟩ u) T B (.slice p n c) (L.set k a)):=by
 have hl:=World.ownsRow.lt h
 rcases h.2 with⟨hv,hn⟩|⟨g,cap,cur,hv,hB,hg,hle,hm,hs,ht⟩
 ·omega
 ·simp only[Value.slice.injEq]at hv
  obtain⟨rfl,rfl,rfl⟩:=hv;have h' : w.ownsRow B T S.k (.slice (some ⟨g,0,none⟩) L.length c) L.length (S.flat L):=h;refine⟨g,rfl,rfl,hB,(hl g rfl).2,fun i u hu=>?_,fun i=>h'.frozenAt _,fun i u a hi ha=>?_⟩
  ·have hi:i<S.k:=by rw[← S.len L[k]];exact(List.getElem?_eq_some_iff.1 hu).1
   have hb:k*S.k+i<L.length*S.k:=by
    have:=Nat.mul_le_mul_right S.k (show k+1≤L.length by omega);rw[Nat.add_mul]at this;omega
   rw[h'.cellAt _ hb,S.flat_at L k hk i hi];exact hu
  ·have:=h'.stored (k*S.k+i) u
   rw[S.flat_set L k hk i hi u a ha]at this;unfold qX;rw[List.length_set];exact this.1
structure jN (w w' : World) (B H:Nat) (v v' : Value):Prop where
 below:Below B w w'
 size:w.heap.size≤w'.heap.size
 far:∀k,k<w.heap.size→v.ownBlock≠some k→w'.heap[k]?=w.heap[k]?
 block:v'.ownBlock=v.ownBlock∨v'.ownBlock=some H
theorem jN.keep {β:Type}{S' : jJ β}{w w' : World}{B H:Nat}{v v' : Value}(h:jN w w' B H v v'){T:TypeId}{B' : Nat}{u:Value}{M:List β}(hu:qX S' w T B' u M)(hne:u.ownBlock=none∨u.ownBlock≠v.ownBlock):qX S' w' T B' u M :=
 hu.blocks fun g hg _ hl=>h.far g hl (by
  rcases hne with h|h
  ·rw[h]at hg;cases hg
  ·rw[hg]at h;exact fun e=>h e.symm)
theorem qX.append {P:Program}{T TS:TypeId}{bytes:Nat}(he:fP S P T TS bytes){w:World}{ops:Array Oper}{rest:List Oper}{o:Oper}{a:Act}{Q:Exit→Act→World→Prop}(hgd:o.guard=none)(s x:Operand)
  (ho:o.op = .call { callee := .builtin .append,args:=#[s,x],argTypes:=#[TS,TS] }) (B:Nat) (v:Value) (L:List α) (y:α) (cs:Array Value) (hcs:cs.toList=S.cells y) (hown:qX S w T B v L) (hs:a.eval s=v)
  (hx:a.eval x = .slice (some ⟨w.heap.size,0,none⟩) 1 1) (hB:B≤w.heap.size) (hn:L.length<1073741824) (hby:bytes≤65536)
  (h:∀v' w', qX S w' T B v' (L ++ [y])→jN w w' B (w.heap.size+1) v v' → wpList P ops Q rest (a.put o.dst v') w'):wpList P ops Q (o::rest) a (w.alloc (.cells cs T)):=by
 obtain⟨i0,z,e1,e2,e3,e4,e5⟩:=he.ex;have hb2:(L.length+1)*bytes≤1073741824*65536:=Nat.mul_le_mul (by omega) hby;refine wpList_append_own_at _ hgd s x TS ho B T i0 z S.k bytes he.ts e1 e2 e3 e4 e5 S.pos v L.length (S.flat L) hs (World.ownsRow.alloc hown _) ⟨w.heap.size,0,none⟩ 1 1 (S.cells y) hx (by rw[S.len];omega) ?_ (S.one y) (by unfold maxLen;omega) (by omega) (by simp;omega) ?_
 ·intro j u hu
  rw[Go.WideShapes.add_plain,Nat.zero_add,cwn];rw[← hcs]at hu
  simpa using hu
 intro v' w' h1 h2 _ h4;refine h v' w' ?_ ⟨(((brf B w).alloc hB _).grown h2 (by simp;omega) fun k hk=>(World.ownsRow.lt hown k hk).1),?_,fun k hk hne=>?_,by rw[World.size_alloc]at h4;exact h4⟩
 ·unfold qX
  rw[lap,S.flat_append,S.flat_single];exact h1
 ·have:=h2.size
  rw[World.size_alloc]at this;omega
 ·rw[h2.block k (by rw[World.size_alloc];omega) (fun e=>hne e.symm)]
  exact(((brf w.heap.size w).alloc mle _).block k hk)
theorem qX.appendAll {P:Program}{T TS:TypeId}{bytes:Nat}(he:fP S P T TS bytes){w:World}{ops:Array Oper}{rest:List Oper}{o:Oper}{a:Act}{Q:Exit→Act→World→Prop}(hgd:o.guard=none)(s x:Operand)
  (ho:o.op = .call { callee := .builtin .append,args:=#[s,x],argTypes:=#[TS,TS] }) (B:Nat) (v:Value) (L M:List α) (p:Option Addr) (c n:Nat) (hM:M.length=n) (hown:qX S w T B v L) (hsrc:qD S w p M) (hp:p=none→c=0) (hs:a.eval s=v)
  (hx:a.eval x = .slice p n c) (hB:B≤w.heap.size) (hn:L.length+n<1073741824) (hby:bytes≤65536)
  (h:∀v' w', qX S w' T B v' (L++M)→jN w w' B w.heap.size v v' → wpList P ops Q rest (a.put o.dst v') w'):wpList P ops Q (o::rest) a w:=by
 subst hM;obtain⟨i0,z,e1,e2,e3,e4,e5⟩:=he.ex;have hb2:(L.length+M.length)*bytes≤1073741824*65536:=Nat.mul_le_mul (by omega) hby
 cases p with
 | none =>
   obtain rfl:=hp rfl;have hM:M = []:=by
    rcases hsrc.2 with h|⟨b,off,h,_⟩
    ·exact h
    ·cases h
   subst hM;exact wpList_append_own_none hgd s x TS ho B T i0 S.k he.ts e1 v L.length (S.flat L) hs hown hx (h v w (by rw[List.append_nil];exact hown) ⟨brf _ _,Nat.le_refl _,fun _ _ _=>rfl,.inl rfl⟩)
 | some ad =>
   refine wpList_append_own_at _ hgd s x TS ho B T i0 z S.k bytes he.ts e1 e2 e3 e4 e5 S.pos v L.length (S.flat L) hs hown ad M.length c (S.flat M) hx (S.flat_len M) ?_ (S.flat_ones M) (by unfold maxLen;omega) (by omega) hB ?_
   ·intro j u hu
    rcases hsrc.2 with rfl|⟨b', off', hp', hl,hc⟩
    ·simp[jJ.flat]at hu
    ·cases hp'
     rw[Go.WideShapes.add_plain];exact hc j u hu
   intro v' w' h1 h2 _ h4;refine h v' w' ?_ ⟨(brf B w).grown h2 hB fun k hk=>(World.ownsRow.lt hown k hk).1,h2.size,fun k hk hne=>h2.block k hk (fun e=>hne e.symm),h4⟩;unfold qX;rw[lap,S.flat_append];exact h1
theorem qX.setOther {w:World}{T:TypeId}{B:Nat}{v:Value}{L:List α}(h:qX S w T B v L){b i:Nat}(hne:v.ownBlock≠some b)(u:Value):qX S (w.setCell ⟨b,i,none⟩ u) T B v L :=
 h.blocks fun g hg _ _=>by
  have:b≠g:=fun e=>hne (by rw[hg,e])
  simp[World.setCell,Array.getElem?_modify,this]
end Go.Proofs.YtefcalgjnkigjaaGreat
namespace Go.Proofs.YtefcalgjnkigjaaGreat
namespace Te
open Go.Lib
inductive Tm where
 | mk (op num more:Int) (kids:List Tm)
def Tm.op:Tm→Int | .mk o _ _ _=>o
def Tm.num:Tm→Int | .mk _ n _ _=>n
def Tm.more:Tm→Int | .mk _ _ m _=>m
def Tm.kids:Tm→List Tm | .mk _ _ _ K=>K
mutual
def count:Tm→Nat
 | .mk _ _ _ K=>1+qS K
def qS:List Tm→Nat
 | []=>0
 | k::r=>count k+qS r
end
mutual
def xU:Tm→Nat
 | .mk _ _ _ K=>jA K+1
def jA:List Tm→Nat
 | []=>0
 | k::r=>max (xU k) (jA r)
end
def zE (n:Int):Bool:=n==1||n==2||n==4||n==8||n==16
def vZ (o n m:Int) (k:Nat):Bool :=
 if o=1 then n==0&&m==0&&k==0
 else if o=2 then decide (0≤n)&&decide (n≤39)&&m==0&&k==0
 else if o=3 then decide (0≤n)&&decide (n≤40)&&m==0&&k==0
 else if o=4 then zE n&&m==0&&k==0
 else if o=5 then decide (0≤n)&&decide (n≤15)&&m==0&&k==0
 else if o=6 then decide (2≤n)&&decide (n≤10)&&m==0&&k==0
 else if o=7 then decide (1≤n)&&decide (n≤10)&&zE m&&k==0
 else if o=8 then decide (1≤n)&&decide (n≤10)&&m==0&&k==0
 else if o=9∨o=10 then n==0&&m==0&&decide (1≤k)
 else if o=11 then n==0&&m==0&&k==1
 else false
mutual
def form:Tm→Bool
 | .mk o n m K=>vZ o n m K.length&&uZ K
def uZ:List Tm→Bool
 | []=>true
 | k::r=>form k&&uZ r
end
def jB:Nat→Tm→Bool
 | 0,_=>false
 | d+1,.mk o n m K=>vZ o n m K.length&&decide (K.length≤40)&&K.all (jB d)
def gH (t:Tm):Int:=if 40<count t then 1 else if 8<xU t∨form t=false then 16 else 0
theorem jKA (K:List Tm):K.length≤qS K:=by
 induction K with
 | nil=>simp[qS]
 | cons k r ih =>
   rw[List.length_cons,qS];have:1≤count k:=by cases k;rw[count];omega
   omega
theorem sD (t:Tm):1≤count t:=by cases t;rw[count];omega
theorem nE {K:List Tm}{k:Tm}(h:k∈K):count k≤qS K:=by
 induction K with
 | nil=>cases h
 | cons a r ih =>
   rw[qS]
   rcases List.mem_cons.1 h with rfl|h
   ·omega
   ·have:=ih h;omega
theorem xXA {K:List Tm}{d:Nat}:jA K≤d↔∀k∈K,xU k≤d:=by
 induction K with
 | nil=>simp[jA]
 | cons a r ih=>rw[jA,Nat.max_le,ih];simp
theorem dS {K:List Tm}:uZ K=true↔∀k∈K,form k=true:=by
 induction K with
 | nil=>simp[uZ]
 | cons a r ih=>rw[uZ,Bool.and_eq_true,ih];simp
theorem tZ:∀(d:Nat) (t:Tm),count t≤40→jB d t=(decide (xU t≤d)&&form t)
 | 0,.mk o n m K,_=>by
   rw[jB,xU]
   simp
 | d+1,.mk o n m K,h=>by
   rw[jB,xU,form];rw[count]at h;have hl:=jKA K;have e:decide (K.length≤40)=true:=dqt (by omega);rw[e,Bool.and_true];have hK:∀k∈K,jB d k=(decide (xU k≤d)&&form k):=fun k hk=>tZ d k (by have:=nE hk;omega)
   have e2:K.all (jB d)=(decide (jA K≤d)&&uZ K):=by
    rw[Bool.eq_iff_iff,List.all_eq_true,Bool.and_eq_true,decide_eq_true_eq,xXA,dS]
    constructor
    ·intro h2
     refine⟨fun k hk=>?_,fun k hk=>?_⟩
     ·have:=h2 k hk;rw[hK k hk,Bool.and_eq_true,decide_eq_true_eq]at this;exact this.1
     ·have:=h2 k hk;rw[hK k hk,Bool.and_eq_true]at this;exact this.2
    ·rintro ⟨h2,h3⟩ k hk
     rw[hK k hk,Bool.and_eq_true,decide_eq_true_eq];exact⟨h2 k hk,h3 k hk⟩
   rw[e2];have e3:decide (jA K+1≤d+1)=decide (jA K≤d):=by rw[decide_eq_decide];omega
   rw[e3]
   cases vZ o n m K.length<;>cases decide (jA K≤d)<;>simp
theorem jXA (t:Tm):gH t=if 40<count t then 1 else if jB 8 t=false then 16 else 0:=by
 unfold gH
 by_cases h:40<count t
 ·rw[if_pos h,if_pos h]
 ·rw[if_neg h,if_neg h,tZ 8 t (by omega)]
  by_cases h8:8<xU t
  ·rw[if_pos (.inl h8),if_pos]
   have:decide (xU t≤8)=false:=dqf (by omega);rw[this];rfl
  ·have:decide (xU t≤8)=true:=dqt (by omega)
   rw[this,Bool.true_and]
   by_cases hf:form t=false
   ·rw[if_pos (.inr hf),if_pos hf]
   ·rw[if_neg (by rintro (h|h);exact h8 h;exact hf h),if_neg hf]
/-! ### words -/
/-! ### what was written is read -/
end Te
open Go.RowKit Te
structure RT where
 op:Int
 num:Int
 more:Int
 p:Option Addr
 n:Nat
 c:Nat
def zEA (r:RT):List Value := [I O r.op,I O r.num,I O r.more,.slice r.p r.n r.c]
def ST:jJ RT:=⟨4,zEA,fun _=>rfl,by decide,fun a u hu=>by
 simp only[zEA,List.mem_cons,List.not_mem_nil,or_false]at hu
 rcases hu with rfl|rfl|rfl|rfl<;>rfl⟩
structure RT.Is (r:RT) (t:Tm):Prop where
 op:r.op=t.op
 num:r.num=t.num
 more:r.more=t.more
 n:r.n=t.kids.length
 c:r.n≤r.c
 z:r.p=none→r.c=0
def jE (Q:Nat→Prop) (w:World):Nat→Option Addr→List Tm→Prop
 | 0,_,K=>K = []
 | d+1,p,K=>∃R:List RT,R.length=K.length∧qD ST w p R∧(∀a,p=some a→K = []∨Q a.block)∧∀k (h:k<R.length) (h' : k<K.length),RT.Is R[k] K[k]∧jE Q w d R[k].p K[k].kids
theorem jE.nil (Q:Nat→Prop)(w:World)(d:Nat)(p:Option Addr):jE Q w d p []:=by
 cases d with
 | zero=>rfl
 | succ d=>exact⟨[],rfl,qD.nil _ _,fun _ _ => .inl rfl,fun k h=>by simp at h⟩
theorem qD.blocks {α:Type}{S:jJ α}{w w' : World}{p:Option Addr}{L:List α}(h:qD S w p L)(hs:w.heap.size≤w'.heap.size)(hp:∀a,p=some a→L = []∨w'.heap[a.block]?=w.heap[a.block]?):qD S w' p L:=by
 refine⟨h.1,?_⟩
 rcases h.2 with e|⟨b,off,e,hl,hc⟩
 ·exact .inl e
 rcases hp _ e with e0|hp
 ·exact .inl e0
 ·exact .inr ⟨b,off,e,nll hl hs,fun n u hu=>(World.cell?_of_block (w:=w) (a:=⟨b,off+n,none⟩) hp).trans (hc n u hu)⟩
theorem qD.lt {α:Type}{S:jJ α}{w:World}{p:Option Addr}{L:List α}(h:qD S w p L)(h0:L ≠ []){a:Addr}(e:p=some a):a.block<w.heap.size:=by
 rcases h.2 with e0|⟨b,off,e1,hl,_⟩
 ·exact absurd e0 h0
 ·rw[e]at e1;cases e1;exact hl
theorem jE.change {Q Q' : Nat→Prop}{w w' : World}(hs:w.heap.size≤w'.heap.size)(hb:∀b,Q b→b<w.heap.size→w'.heap[b]?=w.heap[b]?∧Q' b):∀{d:Nat} {p:Option Addr} {K:List Tm},jE Q w d p K→jE Q' w' d p K
 | 0,_,_,h=>h
 | d+1,p,K,⟨R,h1,h2,h3,h4⟩=>by
   have hR:K = []↔R = []:=by rw[← List.length_eq_zero_iff,← List.length_eq_zero_iff,h1]
   have key:∀a,p=some a→K = []∨(w'.heap[a.block]?=w.heap[a.block]?∧Q' a.block):=fun a e=>by
    rcases h3 a e with h|h
    ·exact .inl h
    ·by_cases h0:K = []
     ·exact .inl h0
     ·exact .inr (hb _ h (h2.lt (fun e=>h0 (hR.2 e)) e))
   refine⟨R,h1,h2.blocks hs fun a e=>(key a e).imp hR.1 And.left,fun a e=>(key a e).imp id And.right,fun k hk hk' => ⟨(h4 k hk hk').1,jE.change hs hb (h4 k hk hk').2⟩⟩
theorem jE.below {Q:Nat→Prop}{w w' : World}{d:Nat}{p:Option Addr}{K:List Tm}(h:jE Q w d p K)(hb:Below w.heap.size w w'):jE Q w' d p K:=h.change hb.size fun b q hl=>⟨hb.block b hl,q⟩
theorem jE.deeper {Q:Nat→Prop}{w:World}:∀{d:Nat} {p:Option Addr} {K:List Tm},jE Q w d p K→jE Q w (d+1) p K
 | 0,_,_,h=>by cases (show _ = [] from h);exact jE.nil _ _ _ _
 | _+1,_,_,⟨R,h1,h2,h3,h4⟩=>⟨R,h1,h2,h3,fun k hk hk' => ⟨(h4 k hk hk').1,(h4 k hk hk').2.deeper⟩⟩
theorem jE.deep {Q:Nat→Prop}{w:World}{d e:Nat}{p:Option Addr}{K:List Tm}(h:jE Q w d p K)(he:d≤e):jE Q w e p K:=by
 induction he with
 | refl=>exact h
 | step _ ih=>exact ih.deeper
structure vBA (w:World) (b o:Nat) (r:RT):Prop where
 c0:w.cell? ⟨b,o,none⟩=some (I O r.op)
 c1:w.cell? ⟨b,o+1,none⟩=some (I O r.num)
 c2:w.cell? ⟨b,o+2,none⟩=some (I O r.more)
 c3:w.cell? ⟨b,o+3,none⟩=some (.slice r.p r.n r.c)
structure TV (Q:Nat→Prop) (w:World) (d:Nat) (r:RT) (t:Tm):Prop where
 is:r.Is t
 at_:jE Q w d r.p t.kids
theorem TV.below {Q:Nat→Prop}{w w' : World}{d:Nat}{r:RT}{t:Tm}(h:TV Q w d r t)(hb:Below w.heap.size w w'):TV Q w' d r t:=⟨h.is,h.at_.below hb⟩
theorem TV.change {Q Q' : Nat→Prop}{w w' : World}{d:Nat}{r:RT}{t:Tm}(h:TV Q w d r t)(hs:w.heap.size≤w'.heap.size)(hb:∀b,Q b→b<w.heap.size→w'.heap[b]?=w.heap[b]?∧Q' b):TV Q' w' d r t:=⟨h.is,h.at_.change hs hb⟩
theorem TV.deep {Q:Nat→Prop}{w:World}{d e:Nat}{r:RT}{t:Tm}(h:TV Q w d r t)(he:d≤e):TV Q w e r t:=⟨h.is,h.at_.deep he⟩
theorem jE.len {Q:Nat→Prop}{w:World}{d:Nat}{p:Option Addr}{K:List Tm}(h:jE Q w d p K):K.length≤9223372036854775807:=by
 cases d with
 | zero=>cases (show _ = [] from h);simp
 | succ d=>obtain⟨R,h1,h2, -⟩:=h;rw[← h1];exact h2.len
theorem jE.kid {Q:Nat→Prop}{w:World}{d:Nat}{p:Option Addr}{K:List Tm}(h:jE Q w d p K){k:Nat}(hk:k<K.length) :
  ∃e b off r,d=e+1∧p=some ⟨b,off,none⟩∧b<w.heap.size∧vBA w b (off+k*4) r∧TV Q w e r K[k]:=by
 cases d with
 | zero=>cases (show _ = [] from h);simp at hk
 | succ d =>
   obtain⟨R,h1,h2,h3,h4⟩:=h;have hk' : k<R.length:=by omega
   obtain⟨b,off,e,hl,hc⟩:=h2.at hk'; exact⟨d,b,off,R[k],rfl,e,hl,⟨hc 0 _ rfl,hc 1 _ rfl,hc 2 _ rfl,hc 3 _ rfl⟩,(h4 k hk' hk).1,(h4 k hk' hk).2⟩
def kW (v:Int) (w:World) (e:Ending) (w' : World):Prop:=e = .returned (I O v)∧Below w.heap.size w w'
def gZ (K:List Tm) (j:Nat) (most:Int):Int:=if 1+(qS (K.take j):Int)≤most then 1+(qS (K.take j):Int) else most+1
def uP (t:Tm) (most:Int):Int:=if (count t:Int)≤most then (count t:Int) else most+1
theorem wM (A B:List Tm):qS (A++B)=qS A+qS B:=by
 induction A with
 | nil=>simp[qS]
 | cons a r ih=>rw[List.cons_append,qS,qS,ih];omega
theorem bM (K:List Tm)(j:Nat)(h:j<K.length):qS (K.take (j+1))=qS (K.take j)+count K[j]:=by
 rw[tsg h,wM,qS,qS];omega
theorem bP (K:List Tm)(j:Nat):qS (K.take j)≤qS K:=by
 have:=wM (K.take j) (K.drop j);rw[List.take_append_drop]at this;omega
theorem mJ (t:Tm):count t=1+qS t.kids:=by cases t;rw[count];rfl
theorem yAA (K:List Tm)(most:Int)(h:0≤most):gZ K 0 most=1:=by
 unfold gZ;simp only[List.take_zero,qS];split<;>omega
theorem yLA (K:List Tm)(j:Nat)(h:j<K.length)(most:Int)(h2:gZ K j most≤most):gZ K j most+uP K[j] (most - gZ K j most)=gZ K (j+1) most:=by
 unfold gZ uP at *;rw[bM K j h];have:=sD K[j]
 split at h2
 ·split<;>split<;>omega
 ·omega
theorem kYA (t:Tm)(most:Int):gZ t.kids t.kids.length most=uP t most:=by
 unfold gZ uP;rw[List.take_length,mJ];simp
theorem yRA (t:Tm)(j:Nat)(most:Int)(h:most<gZ t.kids j most):gZ t.kids j most=uP t most:=by
 unfold gZ uP at *;rw[mJ];have:=bP t.kids j
 split at h
 ·omega
 ·rw[if_neg (by omega),if_neg (by omega)]
theorem uPA (K:List Tm)(j:Nat)(most:Int)(h:0≤most):1≤gZ K j most∧gZ K j most≤most+1:=by
 unfold gZ;split<;>omega
theorem yWA (t:Tm)(most:Int)(h:0≤most):1≤uP t most∧uP t most≤most+1:=by
 have:=sD t;unfold uP;split<;>omega
theorem lN {Q:Nat→Prop}:∀(d:Nat) (r:RT) (t:Tm) (most:Int) (w:World),TV Q w d r t→0≤most→most≤1000000 →
  Calls Tryz.prog 166 #[.agg #[I O r.op,I O r.num,I O r.more,.slice r.p r.n r.c],I O most] w (kW (uP t most) w):=by
 intro d
 induction d using Nat.strongRecOn with
 | _ d ih =>
 intro r t most w h h0 h1;obtain⟨ro,rn,rm,rp,rl,rc⟩:=r;obtain⟨to_,tn,tm,K⟩:=t;have hat:jE Q w d rp K:=h.at_;have hlen:rl=K.length:=h.is.n;have hn:=hat.len;simp only;subst hlen;have HT:=mh hat;have IH:=mh ih;have CE:=mh (show gZ K K.length most=uP (.mk to_ tn tm K) most from kYA (.mk to_ tn tm K) most);have CO:=mh (fun j=>show most<gZ K j most→gZ K j most=uP (.mk to_ tn tm K) most from yRA (.mk to_ tn tm K) j most);have CB:=mh (fun j=>uPA K j most h0);have CS:=mh (fun j h=>yLA K j h most);have CZ:=mh (yAA K most h0);obtain⟨V,eV⟩:∃V,uP (.mk to_ tn tm K) most=V:=⟨_,rfl⟩;rw[eV]at CE CO ⊢;clear h ih eV hat
 go_enter Tryz.func166,Tryz.ntmps166
 go_wp2
 go_loopw [5,11] (fun n i wr=>∃j:Nat,j≤K.length∧i=I O j∧n=I O (gZ K j most)∧Below w.heap.size w wr) (fun _ i _=>K.length - (intOf i).toNat)
 case atStart=>exact⟨0,Nat.zero_le _,rfl,by rw[CZ.out],(brf _ _).alloc mle _⟩
 case round =>
  clear CZ;obtain⟨wo,rfl⟩:∃wo:World,wo=wr:=⟨_,rfl⟩;obtain⟨j,hj,rfl,rfl,hb⟩:=hrel;have HB:=mh hb;have hj0:(0:Int)≤(j:Int):=inn _;obtain⟨b1,b2⟩:=CB.out j
  by_cases hlt:j<K.length
  ·have hj1:(j:Int)<(K.length:Int):=by omega
   obtain⟨e,b,off,k,rfl,rfl,hbl,hc,hv⟩:=(HT.below hb).kid hlt;have CSj:=mh (CS j hlt);have COj:=mh (CO j);obtain⟨N,eN⟩:∃N,gZ K j most=N:=⟨_,rfl⟩;rw[eN]at CSj COj b1 b2 ⊢;obtain⟨c0,c1,c2,c3⟩:=hc;clear eN hb;have HK:=mh (fun (W:World) (hW:Below wo.heap.size wo W)=>IH.out e (by omega) k K[j] (most - N) W (hv.below hW));clear hv
   by_cases hm:most<N
   ·have HF:=mh (COj hm)
    go_wp2
    go_ret
    exact⟨qA HF.out,qK mle HB _⟩
   ·have HK2:=mh (HK _ ((brf _ _).alloc mle (.cells #[I O k.op,I O k.num,I O k.more,.slice k.p k.n k.c] 76)) (by omega) (by omega))
    have hvb:=yWA K[j] (most - N) (by omega);have CSK:=mh (CSj (by omega));obtain⟨V2,eV2⟩:∃V2,uP K[j] (most - N)=V2:=⟨_,rfl⟩;rw[eV2]at hvb CSK HK2;clear eV2 HK
    go_wp2_with (first|(go_at_call 166;(with_reducible refine cmo HK2.out ?_);rintro e w1 ⟨rfl,hb1⟩))
    go_roundw
    case rel=>exact⟨j+1,by omega,by go_num,by rw[CSK.out],qZ mle (qK mle HB _) hb1⟩
    case measure=>simp[intOf];omega
  ·obtain rfl:j=K.length:=by omega
   rw[CE.out];clear hb b1 b2
   go_wp2
   go_ret
   exact⟨rfl,HB.out⟩
end Go.Proofs.YtefcalgjnkigjaaGreat
