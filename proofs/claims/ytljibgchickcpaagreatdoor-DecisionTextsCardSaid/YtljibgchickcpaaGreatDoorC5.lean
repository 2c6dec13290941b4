/- Packed. -/
import Derived.Test.YtljibgchickcpaaGreatDoorC4
set_option maxRecDepth 100000
set_option maxHeartbeats 1000000
open Go.Value renaming int → I
open Go.IntKind renaming i64 → O
namespace Go.Proofs.YtljibgchickcpaaGreatDoor.Re
def ab (l:List (Int × Int)) (i:Nat):Int:=(l.getD i (0,0)).1
def ti (l:List (Int × Int)) (i:Nat):Int:=(l.getD i (0,0)).2
def okAt (l:List (Int × Int)) (i:Nat):Bool :=
 decide (0≤ab l i)&&decide (ab l i≤100000)&&(decide (i=0)||decide (ab l (i - 1)<ab l i)) &&
 ((decide (ti l i = -1)&&decide (i+1=l.length))||(decide (0≤ti l i)&&decide (ti l i≤10)&&(decide (i=0)||decide (ti l (i - 1)≤ti l i))))
structure Right (l:List (Int × Int)):Prop where
 len1:1≤l.length
 len:l.length≤6
 ok:∀i,i<l.length→okAt l i=true
def chk (l:List (Int × Int)):Int:=if 1≤l.length∧l.length≤6∧((List.range l.length).all (okAt l))=true then 0 else 66
variable {l:List (Int × Int)}
theorem chk_zero:chk l=0↔Right l:=by
 unfold chk
 constructor
 ·intro h
  split at h
  ·rename_i hc
   exact⟨hc.1,hc.2.1,fun i hi=>List.all_eq_true.1 hc.2.2 i (List.mem_range.2 hi)⟩
  ·omega
 ·intro h
  rw[if_pos ⟨h.len1,h.len,List.all_eq_true.2 fun i hi=>h.ok i (List.mem_range.1 hi)⟩]
theorem chk_not (h:¬Right l):chk l=66:=by
 unfold chk;rw[if_neg];exact fun hc=>h ⟨hc.1,hc.2.1,fun i hi=>List.all_eq_true.1 hc.2.2 i (List.mem_range.2 hi)⟩
theorem okAt_iff {i:Nat}:okAt l i=true↔(0≤ab l i∧ab l i≤100000)∧(i=0∨ab l (i - 1)<ab l i)∧((ti l i = -1∧i+1=l.length)∨((0≤ti l i∧ti l i≤10)∧(i=0∨ti l (i - 1)≤ti l i))):=by
 unfold okAt;simp only[Bool.and_eq_true,Bool.or_eq_true,decide_eq_true_eq,and_assoc]
theorem Right.ab0 (h:Right l){i:Nat}(hi:i<l.length):0≤ab l i∧ab l i≤100000:=(okAt_iff.1 (h.ok i hi)).1
theorem Right.ti0 (h:Right l){i:Nat}(hi:i<l.length):(ti l i = -1∧i+1=l.length)∨0≤ti l i∧ti l i≤10:=by
 rcases (okAt_iff.1 (h.ok i hi)).2.2 with h|h
 ·exact .inl h
 ·exact .inr h.1
def area (n:Int):Bool:=decide (0≤n)&&decide (n≤268435456)
theorem area_iff {n:Int}:area n=true↔0≤n∧n≤268435456:=by unfold area;simp
theorem area_not {n:Int}:area n=false↔n<0∨268435456<n:=by rw[← Bool.not_eq_true,area_iff];omega
def holds (l:List (Int × Int)) (d f:Int) (i:Nat):Bool:=decide (ab l i*f<1000*max 0 (d - f))
def stepTo (l:List (Int × Int)) (d f:Int):Nat→Int
 | 0 => -1
 | k+1=>if holds l d f k=true then k else stepTo l d f k
def step (l:List (Int × Int)) (d f:Int):Int:=stepTo l d f l.length
def stepV (l:List (Int × Int)) (d f:Int):Int:=if chk l≠0∨area d=false∨area f=false then -1 else step l d f
def paid (l:List (Int × Int)) (d f:Int):Int :=
 if d≤f then d else if step l d f<0 then f else if ti l (step l d f).toNat = -1 then 0 else max 0 (f - ti l (step l d f).toNat*(d - f))
def paidErr (l:List (Int × Int)) (d f:Int):Int:=if chk l≠0 then 66 else if area d=false∨area f=false then 2 else 0
def paidVal (l:List (Int × Int)) (d f:Int):Int:=if paidErr l d f≠0 then 0 else paid l d f
variable {d f:Int}
theorem stepTo_spec (k:Nat):(stepTo l d f k = -1∧∀j,j<k→holds l d f j=false)∨∃n:Nat,stepTo l d f k=n∧n<k∧holds l d f n=true∧∀j,n<j→j<k→holds l d f j=false:=by
 induction k with
 | zero=>exact .inl ⟨rfl,fun j hj=>absurd hj (Nat.not_lt_zero j)⟩
 | succ k ih =>
   unfold stepTo
   by_cases hk:holds l d f k=true
   ·rw[if_pos hk]
    exact .inr ⟨k,rfl,by omega,hk,fun j h1 h2=>absurd h2 (by omega)⟩
   ·rw[if_neg hk]
    have hk' : holds l d f k=false:=by simpa using hk
    rcases ih with⟨e,h⟩|⟨n,e,h1,h2,h3⟩
    ·exact .inl ⟨e,fun j hj=>by
      by_cases ej:j=k
      ·rw[ej];exact hk'
      ·exact h j (by omega)⟩
    ·exact .inr ⟨n,e,by omega,h2,fun j g1 g2=>by
      by_cases ej:j=k
      ·rw[ej];exact hk'
      ·exact h3 j g1 (by omega)⟩
theorem step_spec:(step l d f = -1∧∀j,j<l.length→holds l d f j=false)∨∃n:Nat,step l d f=n∧n<l.length∧holds l d f n=true∧∀j,n<j→j<l.length→holds l d f j=false:=stepTo_spec l.length
theorem Right.paid_bd (h:Right l)(d0:0≤d)(f0:0≤f):0≤paid l d f∧paid l d f≤d∧paid l d f≤f:=by
 unfold paid
 by_cases h1:d≤f
 ·rw[if_pos h1];omega
 ·rw[if_neg h1]
  by_cases h2:step l d f<0
  ·rw[if_pos h2];omega
  ·rw[if_neg h2]
   by_cases h3:ti l (step l d f).toNat = -1
   ·rw[if_pos h3];omega
   ·rw[if_neg h3]
    rcases step_spec (l:=l) (d:=d) (f:=f) with⟨e,_⟩|⟨n,e,hn,_⟩
    ·omega
    ·rw[e,Int.toNat_natCast]at h3 ⊢
     have ht:0≤ti l n:=by rcases h.ti0 hn with h|h<;>omega
     have:=Int.mul_nonneg ht (show 0≤d - f by omega);omega
end Go.Proofs.YtljibgchickcpaaGreatDoor.Re
namespace Go.Proofs.YtljibgchickcpaaGreatDoor.En
def money (n:Int):Bool:=decide (0≤n)&&decide (n≤68719476736)
theorem money_iff {n:Int}:money n=true↔0≤n∧n≤68719476736:=by unfold money;simp
theorem money_not {n:Int}:money n=false↔n<0∨68719476736<n:=by
 rw[← Bool.not_eq_true,money_iff];omega
def err (e u:Int) (l:List Int):Int :=
 if money e=false then 67 else if u<1∨100000<u then 2 else if 64<l.length then 1 else if (l.any fun x => !money x)=true then 67 else 0
def units (u:Int) (l:List Int):List Int:=l.map fun x=>x / u
def usum (u:Int) (l:List Int):Int:=Sh.sum (units u l)
def paid (e u:Int) (l:List Int):List Int:=if e / u<usum u l then shList (e / u) (units u l) else units u l
def scale (e u:Int) (l:List Int):List Int:=if err e u l=0 then (paid e u l).map fun x=>x*u else []
def scaled (e u:Int) (l:List Int):Bool:=decide (err e u l=0)&&decide (e / u<usum u l)
structure Good (e u:Int) (l:List Int):Prop where
 e0:0≤e
 e1:e≤68719476736
 u0:1≤u
 u1:u≤100000
 len:l.length≤64
 all:∀x∈l,0≤x∧x≤68719476736
theorem good_of {e u:Int}{l:List Int}(h:err e u l=0):Good e u l:=by
 unfold err at h
 by_cases h1:money e=false
 ·rw[if_pos h1]at h;omega
 ·rw[if_neg h1]at h
  by_cases h2:u<1∨100000<u
  ·rw[if_pos h2]at h;omega
  ·rw[if_neg h2]at h
   by_cases h3:64<l.length
   ·rw[if_pos h3]at h;omega
   ·rw[if_neg h3]at h
    by_cases h4:(l.any fun x => !money x)=true
    ·rw[if_pos h4]at h;omega
    ·have m:=money_iff.1 (show money e=true by simpa using h1)
     refine⟨m.1,m.2,by omega,by omega,by omega,fun x hx=>money_iff.1 ?_⟩
     have h5:(l.any fun x => !money x)=false:=by simpa using h4
     rw[List.any_eq_false]at h5
     simpa using h5 x hx
theorem err_of {e u:Int}{l:List Int}(h:Good e u l):err e u l=0:=by
 have h4:(l.any fun x => !money x)=false:=by
  rw[List.any_eq_false];intro x hx;rw[money_iff.2 (h.all x hx)]
  simp
 unfold err;rw[if_neg (by rw[money_iff.2 ⟨h.e0,h.e1⟩];simp),if_neg (by have:=h.u0;have:=h.u1;omega),if_neg (by have:=h.len;omega),if_neg (by rw[h4];simp)]
variable {e u:Int} {l:List Int}
theorem Good.sum (h:Good e u l)(k:Nat):0≤Sh.sum (l.take k)∧Sh.sum (l.take k)≤4398046511104:=by
 have hx:∀x∈l.take k,0≤x∧x≤68719476736:=fun x hx=>h.all x (List.mem_of_mem_take hx)
 refine⟨Sh.sum_nonneg fun x m=>(hx x m).1,?_⟩
 have:=Sh.sum_le_len fun x m=>(hx x m).2
 have hl:(l.take k).length≤l.length:=List.length_take_le' _ _;have:=h.len;omega
theorem Good.unit (h:Good e u l):∀x∈units u l,0≤x∧x≤68719476736:=fun x hx=>by
 obtain⟨y,hy,rfl⟩:=List.mem_map.1 hx;have hb:=h.all y hy;have:=Int.ediv_le_self u hb.1;exact⟨Int.ediv_nonneg hb.1 (by have:=h.u0;omega),by omega⟩
theorem units_len:(units u l).length=l.length:=by unfold units;simp
theorem units_take (k:Nat):(units u l).take k=units u (l.take k):=by unfold units;rw[List.map_take]
theorem Good.usum (h:Good e u l)(k:Nat):0≤usum u (l.take k)∧usum u (l.take k)≤4398046511104:=by
 unfold En.usum;rw[← units_take];have hx:∀x∈(units u l).take k,0≤x∧x≤68719476736:=fun x hx=>h.unit x (List.mem_of_mem_take hx)
 refine⟨Sh.sum_nonneg fun x m=>(hx x m).1,?_⟩
 have:=Sh.sum_le_len fun x m=>(hx x m).2
 have hl:((units u l).take k).length≤(units u l).length:=List.length_take_le' _ _;rw[units_len]at hl;have:=h.len;omega
theorem units_snoc (x:Int):units u (l ++ [x])=units u l ++ [x / u]:=by unfold units;simp
theorem usum_snoc (x:Int):usum u (l ++ [x])=usum u l+x / u:=by unfold usum;rw[units_snoc,Sh.sum_snoc]
theorem take_snoc {k:Nat}(hk:k<l.length):l.take (k+1)=l.take k ++ [l.getD k 0]:=by
 rw[tsg hk,List.getD_eq_getElem?_getD,List.getElem?_eq_getElem hk];rfl
end Go.Proofs.YtljibgchickcpaaGreatDoor.En
namespace Go.Proofs.YtljibgchickcpaaGreatDoor.Ce
def fr (l:List (Int × Int)) (i:Nat):Int:=(l.getD i (0,0)).1
def mi (l:List (Int × Int)) (i:Nat):Int:=(l.getD i (0,0)).2
def okAt (l:List (Int × Int)) (i:Nat):Bool :=
 En.money (fr l i)&&decide (0≤mi l i)&&decide (mi l i≤1000)&&(decide (i=0)||(decide (fr l (i - 1)<fr l i)&&decide (mi l (i - 1)≤mi l i)))
structure Right (l:List (Int × Int)):Prop where
 len:l.length≤6
 ok:∀i,i<l.length→okAt l i=true
def chk (l:List (Int × Int)):Int:=if l.length≤6∧((List.range l.length).all (okAt l))=true then 0 else 66
theorem chk_zero {l:List (Int × Int)}:chk l=0↔Right l:=by
 unfold chk
 constructor
 ·intro h
  split at h
  ·rename_i hc
   exact⟨hc.1,fun i hi=>List.all_eq_true.1 hc.2 i (List.mem_range.2 hi)⟩
  ·omega
 ·intro h
  rw[if_pos ⟨h.len,List.all_eq_true.2 fun i hi=>h.ok i (List.mem_range.1 hi)⟩]
theorem chk_not {l:List (Int × Int)}(h:¬Right l):chk l=66:=by
 unfold chk;rw[if_neg];exact fun hc=>h ⟨hc.1,fun i hi=>List.all_eq_true.1 hc.2 i (List.mem_range.2 hi)⟩
theorem okAt_iff {l:List (Int × Int)}{i:Nat}:okAt l i=true↔(0≤fr l i∧fr l i≤68719476736)∧0≤mi l i∧mi l i≤1000∧(i=0∨fr l (i - 1)<fr l i∧mi l (i - 1)≤mi l i):=by
 unfold okAt;simp only[Bool.and_eq_true,Bool.or_eq_true,decide_eq_true_eq,En.money_iff,and_assoc]
variable {l m:List (Int × Int)} {a b:Int}
theorem Right.fr0 (h:Right l){i:Nat}(hi:i<l.length):0≤fr l i∧fr l i≤68719476736:=(okAt_iff.1 (h.ok i hi)).1
theorem Right.mi0 (h:Right l){i:Nat}(hi:i<l.length):0≤mi l i∧mi l i≤1000:=⟨(okAt_iff.1 (h.ok i hi)).2.1,(okAt_iff.1 (h.ok i hi)).2.2.1⟩
theorem Right.step (h:Right l){i:Nat}(hi:i+1<l.length):fr l i<fr l (i+1):=by
 rcases (okAt_iff.1 (h.ok (i+1) hi)).2.2.2 with h|h
 ·omega
 ·exact h.1
theorem Right.first (h:Right l){i:Nat}(hi:i<l.length):fr l 0≤fr l i:=by
 induction i with
 | zero=>exact Int.le_refl _
 | succ i ih =>
   have:=ih (by omega);have:=h.step hi;omega
/-! ### what is taken away -/
def till (l:List (Int × Int)) (a:Int) (i:Nat):Int:=if i+1<l.length then min a (fr l (i+1)) else a
def span (l:List (Int × Int)) (a:Int) (i:Nat):Int:=max 0 (till l a i - fr l i)
def cut (l:List (Int × Int)) (a:Int) (i:Nat):Int:=Ex.up (span l a i*mi l i) 1000
def cuts (l:List (Int × Int)) (a:Int):Nat→Int
 | 0=>0
 | k+1=>cuts l a k+cut l a k
def red (l:List (Int × Int)) (a:Int):Int:=a - cuts l a l.length
def spans (l:List (Int × Int)) (a:Int):Nat→Int
 | 0=>0
 | k+1=>spans l a k+span l a k
theorem up_eq {n:Int}(h0:0≤n)(h1:n≤1125899906842624):Ex.up n 1000 = -((-n) / 1000):=by
 unfold Ex.up Ex.down;rw[if_pos (Ex.fits_of (by omega) (by omega) (by omega) (by omega))]
theorem up_cut {x m:Int}(x0:0≤x)(x1:x≤68719476736)(m0:0≤m)(m1:m≤1000):Ex.up (x*m) 1000 = -((-(x*m)) / 1000)∧0≤x*m∧x*m≤x*1000:=by
 have h0:0≤x*m:=Int.mul_nonneg x0 m0;have h1:x*m≤x*1000:=Int.mul_le_mul_of_nonneg_left m1 x0;exact⟨up_eq h0 (by omega),h0,h1⟩
theorem up_bd {x m:Int}(x0:0≤x)(x1:x≤68719476736)(m0:0≤m)(m1:m≤1000):0≤Ex.up (x*m) 1000∧Ex.up (x*m) 1000≤x:=by
 obtain⟨e,h0,h1⟩:=up_cut x0 x1 m0 m1;rw[e];generalize x*m=p at *;omega
theorem Right.span_bd (h:Right l)(_a0:0≤a)(a1:a≤68719476736){i:Nat}(hi:i<l.length):0≤span l a i∧span l a i≤68719476736:=by
 have:=h.fr0 hi;unfold span till
 split<;>omega
theorem Right.cut_bd (h:Right l)(a0:0≤a)(a1:a≤68719476736){i:Nat}(hi:i<l.length):0≤cut l a i∧cut l a i≤span l a i:=by
 have hs:=h.span_bd a0 a1 hi;have hm:=h.mi0 hi;exact up_bd hs.1 hs.2 hm.1 hm.2
theorem Right.cuts_bd (h:Right l)(a0:0≤a)(a1:a≤68719476736){k:Nat}(hk:k≤l.length):0≤cuts l a k∧cuts l a k≤spans l a k:=by
 induction k with
 | zero=>exact⟨Int.le_refl _,Int.le_refl _⟩
 | succ k ih =>
   have:=ih (by omega);have:=h.cut_bd a0 a1 (show k<l.length by omega);unfold cuts spans;omega
theorem Right.spans_eq (h:Right l){k:Nat}(hk:k<l.length):spans l a (k+1)=max 0 (till l a k - fr l 0):=by
 induction k with
 | zero=>unfold spans spans span;omega
 | succ k ih =>
   have e:=ih (by omega);have s1:=h.step hk;have s2:=h.first (show k+1<l.length from hk)
   have s3:k+1+1<l.length→fr l (k+1)<fr l (k+1+1):=fun hh=>h.step hh
   show spans l a (k+1)+span l a (k+1)=_
   rw[e];unfold span till;rw[if_pos (show k+1<l.length from hk)]
   split
   ·have:=s3 (by assumption);omega
   ·omega
theorem Right.spans_all (h:Right l):spans l a l.length=if l.length=0 then 0 else max 0 (a - fr l 0):=by
 by_cases hz:l.length=0
 ·rw[if_pos hz,hz];rfl
 ·rw[if_neg hz]
  obtain⟨n,hn⟩:∃n,l.length=n+1:=⟨l.length - 1,by omega⟩;rw[hn,h.spans_eq (by omega)];unfold till;rw[if_neg (by omega)]
theorem Right.red_bd (h:Right l)(a0:0≤a)(a1:a≤68719476736):0≤red l a∧red l a≤a:=by
 have hc:=h.cuts_bd a0 a1 mle;have hs:=h.spans_all (a:=a);unfold red
 split at hs
 ·omega
 ·have:=h.fr0 (i:=0) (by omega)
  omega
theorem Right.red_part (h:Right l)(a0:0≤a)(a1:a≤68719476736){k:Nat}(hk:k≤l.length):0≤a - cuts l a k∧a - cuts l a k≤a:=by
 have hc:=h.cuts_bd a0 a1 hk;refine⟨?_,by omega⟩
 by_cases hz:k=0
 ·subst hz;unfold cuts;omega
 ·obtain⟨n,hn⟩:∃n,k=n+1:=⟨k - 1,by omega⟩
  subst hn;have hs:=h.spans_eq (a:=a) (k:=n) (by omega);have:=h.fr0 (i:=0) (by omega);have:=h.fr0 (i:=n) (by omega);unfold till at hs
  split at hs<;>omega
/-! ### a farm -/
def redErr (l:List (Int × Int)) (a:Int):Int:=if chk l≠0 then 66 else if En.money a=false then 67 else 0
def redVal (l:List (Int × Int)) (a:Int):Int:=if redErr l a≠0 then 0 else red l a
def sumErr (xs:List Int):Int:=if (xs.any fun x => !En.money x)=true∨En.money (Sh.sum xs)=false then 67 else 0
def farmErr (l:List (Int × Int)) (cap:Int) (xs:List Int):Int:=if chk l≠0 then 66 else if En.money cap=false then 67 else if 16<xs.length then 1 else sumErr xs
def farmLeft (l:List (Int × Int)) (cap:Int) (xs:List Int):Int:=min cap (red l (Sh.sum xs))
def farm (l:List (Int × Int)) (cap:Int) (xs:List Int):List Int :=
 if farmErr l cap xs≠0 then [] else if farmLeft l cap xs=Sh.sum xs then xs else shList (farmLeft l cap xs) xs
structure Fine (l:List (Int × Int)) (cap:Int) (xs:List Int):Prop where
 right:Right l
 cap0:0≤cap
 cap1:cap≤68719476736
 len:xs.length≤16
 all:∀x∈xs,0≤x∧x≤68719476736
 sum:Sh.sum xs≤68719476736
variable {xs:List Int} {cap:Int}
theorem fine_of (h:farmErr l cap xs=0):Fine l cap xs:=by
 unfold farmErr at h
 by_cases h1:chk l≠0
 ·rw[if_pos h1]at h;omega
 rw[if_neg h1]at h
 by_cases h2:En.money cap=false
 ·rw[if_pos h2]at h;omega
 rw[if_neg h2]at h
 by_cases h3:16<xs.length
 ·rw[if_pos h3]at h;omega
 rw[if_neg h3]at h;unfold sumErr at h
 by_cases h4:(xs.any fun x => !En.money x)=true∨En.money (Sh.sum xs)=false
 ·rw[if_pos h4]at h;omega
 have m:=En.money_iff.1 (show En.money cap=true by simpa using h2);have h5:(xs.any fun x => !En.money x)=false:=Bool.eq_false_iff.2 fun h=>h4 (.inl h)
 have h6:En.money (Sh.sum xs)=true:=by simpa using fun h=>h4 (.inr h)
 rw[List.any_eq_false]at h5;exact⟨chk_zero.1 (by omega),m.1,m.2,by omega,fun x hx=>En.money_iff.1 (by simpa using h5 x hx),(En.money_iff.1 h6).2⟩
theorem Fine.sum0 (h:Fine l cap xs):0≤Sh.sum xs:=Sh.sum_nonneg fun x hx=>(h.all x hx).1
theorem Fine.sumErr (h:Fine l cap xs):sumErr xs=0:=by
 have h4:(xs.any fun x => !En.money x)=false:=by
  rw[List.any_eq_false];intro x hx;rw[En.money_iff.2 (h.all x hx)]
  simp
 unfold Ce.sumErr;rw[if_neg];rintro (h1|h1)
 ·rw[h4]at h1;cases h1
 ·rw[En.money_iff.2 ⟨h.sum0,h.sum⟩]at h1;cases h1
theorem Fine.err (h:Fine l cap xs):farmErr l cap xs=0:=by
 unfold farmErr;rw[if_neg (by rw[chk_zero.2 h.right];simp),if_neg (by rw[En.money_iff.2 ⟨h.cap0,h.cap1⟩];simp),if_neg (by have:=h.len;omega)];exact h.sumErr
theorem Fine.left (h:Fine l cap xs):0≤farmLeft l cap xs∧farmLeft l cap xs≤Sh.sum xs:=by
 have:=h.right.red_bd h.sum0 h.sum;have:=h.cap0;unfold farmLeft;omega
theorem Fine.shErr (h:Fine l cap xs):shErr (farmLeft l cap xs) xs=0:=by
 have h1:=h.left;have h2:=h.sum;have h4:(xs.any fun x => !Sh.limited x)=false:=by
  rw[List.any_eq_false];intro x hx;have:=h.all x hx;rw[Sh.limited_iff.2 ⟨by omega,by omega⟩]
  simp
 unfold Go.Proofs.YtljibgchickcpaaGreatDoor.shErr;rw[if_neg (by have:=h.len;omega),if_neg];rintro (h5|h5)
 ·rw[Sh.limited_iff.2 ⟨by omega,by omega⟩]at h5;cases h5
 ·rw[h4]at h5;cases h5
theorem Fine.right' (h:Fine l cap xs)(hne:farmLeft l cap xs≠Sh.sum xs):Sh.Right (farmLeft l cap xs) xs∧farm l cap xs=Sh.shares (farmLeft l cap xs) xs:=by
 have h1:=h.left;have h2:=h.sum;have hs:Sh.sum xs≠0:=by omega
 refine⟨⟨h1.1,by omega,fun x hx=>by have:=h.all x hx;omega,hs⟩,?_⟩
 unfold farm shList;rw[if_neg (by rw[h.err];simp),if_neg hne,if_neg (by rw[h.shErr];simp),if_neg hs]
theorem Fine.same (h:Fine l cap xs)(he:farmLeft l cap xs=Sh.sum xs):farm l cap xs=xs:=by
 unfold farm;rw[if_neg (by rw[h.err];simp),if_pos he]
theorem Fine.farm_len (h:Fine l cap xs):(farm l cap xs).length=xs.length:=by
 by_cases he:farmLeft l cap xs=Sh.sum xs
 ·rw[h.same he]
 ·rw[(h.right' he).2];unfold Sh.shares;simp
theorem Fine.farm_bd (h:Fine l cap xs)(i:Nat)(hi:i<xs.length):0≤(farm l cap xs).getD i 0∧(farm l cap xs).getD i 0≤xs.getD i 0:=by
 by_cases he:farmLeft l cap xs=Sh.sum xs
 ·rw[h.same he,List.getD_eq_getElem?_getD,List.getElem?_eq_getElem hi]
  exact⟨(h.all _ (List.getElem_mem hi)).1,Int.le_refl _⟩
 ·have h1:=h.left
  rw[(h.right' he).2,Sh.shares_getD _ _ _ hi];exact⟨((h.right' he).1.share_bd i).1,(h.right' he).1.share_le (by omega) hi⟩
end Go.Proofs.YtljibgchickcpaaGreatDoor.Ce
namespace Go.Proofs.YtljibgchickcpaaGreatDoor
namespace Sc
open Go.Lib Te Cr
theorem one_parts {s:Sch}(h:one17 s=0):0≤s.num∧s.num≤15∧0≤s.least∧s.least≤268435456∧chkT s.cond=0∧brB s.br=true∧(0≤s.ex∧s.ex<65536)∧Wo.nameB s.nm.data.toList=true:=by
 unfold one17 at h
 split at h
 ·cases h
 rename_i g1
 split at h
 ·cases h
 rename_i g2
 split at h
 ·rename_i h1;exact absurd h h1
 rename_i g3
 split at h
 ·cases h
 rename_i g4
 refine⟨by omega,by omega,by omega,by omega,by omega,?_,⟨by omega,by omega⟩,by simpa using g2⟩
 cases e:brB s.br
 ·exact absurd (.inl e) g4
 ·rfl
theorem brB_all {l:List Brk}(h:brB l=true):brAll l l.length=true:=by
 unfold brB at h;rw[Bool.and_eq_true]at h;exact h.1
theorem br_right {l:List Brk}{k:Nat}(hk:k<l.length)(h:brAll l (k+1)=true):upB l k<l[k].up∧l[k].up≤268435456∧0≤l[k].rate∧l[k].rate≤1048576∧0≤upB l k:=by
 have h2:=h;rw[brAll_succ,Bool.and_eq_true]at h2;have h3:=h2.2;rw[brAt_some hk,Bool.and_eq_true,Bool.and_eq_true,Bool.and_eq_true,decide_eq_true_eq,decide_eq_true_eq,decide_eq_true_eq,decide_eq_true_eq]at h3;exact⟨h3.1,h3.2.1,h3.2.2.1,h3.2.2.2,upB_nonneg (by omega) h2.1⟩
/-! ### words -/
/-! ### how long -/
/-! ### reading -/
theorem fst_isNone {f:Nat→Int}{n:Nat}(h:fst f n=none):∀j,j<n→f j=0:=by
 intro j hj;unfold fst at h;have:=List.find?_eq_none.1 h j (List.mem_range.2 hj)
 simpa using this
structure LawOk (L:List Sch):Prop where
 len:L.length≤16
 one:∀s∈L,one17 s=0
 asc:∀i j (hi:i<L.length) (hj:j<L.length),i<j→L[i].num<L[j].num
 mtl:∀s∈L,mutual17 L s=true
theorem lawOk {L:List Sch}(h:chk17 L=(-1,0)):LawOk L:=by
 unfold chk17 at h
 by_cases h16:16<L.length
 ·rw[if_pos h16]at h;cases h
 rw[if_neg h16]at h;have hA:fst (errA L) L.length=none:=by
  cases e:fst (errA L) L.length with
  | none=>rfl
  | some i=>rw[e]at h;simp only[Prod.mk.injEq]at h;omega
 rw[hA]at h;simp only at h;have hB:fst (errB L) L.length=none:=by
  cases e:fst (errB L) L.length with
  | none=>rfl
  | some i=>rw[e]at h;simp only[Prod.mk.injEq]at h;omega
 have kA:=fst_isNone hA;have kB:=fst_isNone hB;have one:∀i (hi:i<L.length),one17 L[i]=0∧twice L i L[i]=false:=fun i hi=>by
  have:=kA i hi;unfold errA at this;rw[List.getElem?_eq_getElem hi]at this;simp only at this
  split at this
  ·rename_i h1;exact absurd this h1
  ·rename_i h1
   split at this
   ·cases this
   ·rename_i h2
    exact⟨Decidable.not_not.1 h1,by simpa using h2⟩
 have step:∀i (hi:i+1<L.length),L[i].num<L[i+1].num:=fun i hi=>by
  have:=(one (i+1) hi).2;unfold twice at this;rw[Bool.or_eq_false_iff]at this;have h1:=this.1;simp only at h1;rw[List.getElem?_eq_getElem (by omega)]at h1;simp only[decide_eq_false_iff_not]at h1;omega
 refine⟨by omega,fun s hs=>?_,fun i j hi hj hij=>?_,fun s hs=>?_⟩
 ·obtain⟨i,hi,rfl⟩:=List.mem_iff_getElem.1 hs
  exact(one i hi).1
 ·obtain⟨k,rfl⟩:∃k,j=i+1+k:=⟨j - (i+1),by omega⟩
  clear hij
  induction k with
  | zero=>exact step i hj
  | succ k ih =>
    have h1:=ih (by omega);have h2:=step (i+1+k) hj;exact Int.lt_trans h1 h2
 ·obtain⟨i,hi,rfl⟩:=List.mem_iff_getElem.1 hs
  have:=kB i hi;unfold errB at this;rw[List.getElem?_eq_getElem hi]at this;simp only at this
  split at this
  ·assumption
  ·cases this
theorem LawOk.num {L:List Sch}(h:LawOk L){a:Sch}(ha:a∈L):0≤a.num∧a.num≤15:=⟨(one_parts (h.one a ha)).1,(one_parts (h.one a ha)).2.1⟩
/-! ### rates that do not rise -/
end Sc
end Go.Proofs.YtljibgchickcpaaGreatDoor
namespace Go.Proofs.YtljibgchickcpaaGreatDoor.As
open Sc Go.RowKit
structure LineF where
 decl:Int
 sch:Int
 due:List Int
 season:Int
 kind:Int
 area:Int
 border:Int
structure FarmF where
 farm:Int
 day:Int
 lines:List LineF
structure YLaw where
 sch:List Sch
 steps:List (Int × Int)
 late:Lat
 deg:List (Int × Int)
 cap:Int
 env:Int
 unit:Int
 width:Int
structure Awd where
 farm:Int
 scheme:Int
 decl:Int
 det:Int
 paid:Int
 rated:Int
 timely:Int
 capped:Int
 due:Int
structure Rsn where
 line:Int
 scheme:Int
 kind:Int
/-! ### what is right -/
def chkY (l:YLaw):Int :=
 if l.sch.length=0 then 17 else if (chk17 l.sch).2≠0 then (chk17 l.sch).2 else if Re.chk l.steps≠0 then Re.chk l.steps else if chkL l.late≠0 then chkL l.late else if Ce.chk l.deg≠0 then Ce.chk l.deg
 else if En.money l.cap=false∨En.money l.env=false then 67 else if l.unit<1∨100000<l.unit∨l.width<0∨200<l.width then 2 else 0
structure YOk (l:YLaw):Prop where
 ne:l.sch.length≠0
 sch:chk17 l.sch=(-1,0)
 steps:Re.Right l.steps
 late:LatOk l.late
 deg:Ce.Right l.deg
 cap:0≤l.cap∧l.cap≤68719476736
 env:0≤l.env∧l.env≤68719476736
 unit:1≤l.unit∧l.unit≤100000
 width:0≤l.width∧l.width≤200
def factOf (x:LineF) (k:Nat):Fct:=⟨x.decl,x.due.getD k 0,x.season,x.kind,x.area,x.border⟩
def namesB (x:LineF) (s:Sch):Bool:=bitB x.sch s.num
def allV (L:List Sch):Int:=L.foldl (fun acc s=>bits BinOp.or IntKind.i64 acc (wrap64 (2 ^ s.num.toNat))) 0
def schOk (l:YLaw) (x:LineF) (k:Nat):Bool :=
 match l.sch[k]? with
 | some s=>if namesB x s then decide (chk28 (factOf x k) l.width=0) else decide (x.due.getD k 0=0)
 | none=>true
def lineB (l:YLaw) (x:LineF):Bool :=
 decide (bits BinOp.andNot IntKind.i64 x.sch (allV l.sch)=0)&&(decide (x.due.length=l.sch.length)&&(decide (0≤x.decl)&&(decide (x.decl≤268435456)&&(List.range l.sch.length).all (schOk l x))))
def declSum (K:List LineF):Int:=Sh.sum (K.map (·.decl))
def farmB (l:YLaw) (f:FarmF):Bool :=
 decide (1≤f.farm)&&(decide (f.farm≤60)&&(decide (0≤f.day)&&(decide (f.day≤36864)&&(decide (f.lines.length≤20)&&(f.lines.all (lineB l)&&decide (declSum f.lines≤268435456))))))
def farmAt (l:YLaw) (F:List FarmF) (i:Nat):Bool :=
 match F[i]? with
 | some f=>farmB l f&&(match i with|0=>true|k+1=>match F[k]? with|some g=>decide (g.farm<f.farm)|none=>true)
 | none=>true
def chkF (l:YLaw) (F:List FarmF):Int:=if chkY l≠0 then chkY l else if 10<F.length then 1 else if (List.range F.length).all (farmAt l F)=true then 0 else 68
/-! ### awards -/
def sumD (s:Sch) (K:List LineF):Int:=Sh.sum (K.map fun x=>if namesB x s then x.decl else 0)
def sumN (l:YLaw) (k:Nat) (s:Sch) (K:List LineF):Int:=Sh.sum (K.map fun x=>if namesB x s then (det (factOf x k) l.width).1 else 0)
def someN (s:Sch) (K:List LineF):Bool:=K.any fun x=>namesB x s
def paidOf (l:YLaw) (s:Sch) (d n:Int):Int:=if s.least≤n then Re.paidVal l.steps d n else 0
def ratedOf (s:Sch) (p:Int):Int:=min (amtV s p) 68719476736
def award (l:YLaw) (f:FarmF) (k:Nat) (s:Sch):Awd :=
 let d:=sumD s f.lines
 let n:=sumN l k s f.lines
 let p:=paidOf l s d n
 let r:=ratedOf s p
 ⟨f.farm,s.num,d,n,p,r,left l.late f.day r,0,0⟩
def awStep (l:YLaw) (f:FarmF) (k:Nat):List Awd:=match l.sch[k]? with|some s=>if someN s f.lines then [award l f k s] else []|none => []
def awardsN (l:YLaw) (f:FarmF):Nat→List Awd
 | 0 => []
 | k+1=>awardsN l f k++awStep l f k
def awards0 (l:YLaw) (f:FarmF):List Awd:=awardsN l f l.sch.length
def timelies (A:List Awd):List Int:=A.map (·.timely)
def cappeds (A:List Awd):List Int:=A.map (·.capped)
def setCapped (A:List Awd) (c:List Int):List Awd:=A.mapIdx fun i a=>{ a with capped:=c.getD i 0 }
def setDue (A:List Awd) (c:List Int):List Awd:=A.mapIdx fun i a=>{ a with due:=c.getD i 0 }
def rsStep (l:YLaw) (x:LineF) (i k:Nat):List Rsn:=match l.sch[k]? with|some s=>if namesB x s∧(det (factOf x k) l.width).2≠0 then [⟨i,s.num,(det (factOf x k) l.width).2⟩] else []|none => []
def rsnAt (l:YLaw) (x:LineF) (i:Nat):Nat→List Rsn
 | 0 => []
 | k+1=>rsnAt l x i k++rsStep l x i k
def rsLine (l:YLaw) (f:FarmF) (i k:Nat):List Rsn:=match f.lines[i]? with|some x=>rsnAt l x i k|none => []
def reasonsN (l:YLaw) (f:FarmF):Nat→List Rsn
 | 0 => []
 | i+1=>reasonsN l f i++rsLine l f i l.sch.length
def reasons0 (l:YLaw) (f:FarmF):List Rsn:=reasonsN l f f.lines.length
def farmErr (l:YLaw) (f:FarmF):Int:=if chkF l [f]≠0 then chkF l [f] else Ce.farmErr l.deg l.cap (timelies (awards0 l f))
def farmAw (l:YLaw) (f:FarmF):List Awd:=if farmErr l f≠0 then [] else setCapped (awards0 l f) (Ce.farm l.deg l.cap (timelies (awards0 l f)))
def farmRs (l:YLaw) (f:FarmF):List Rsn:=if farmErr l f≠0 then [] else reasons0 l f
def allErr (l:YLaw):List FarmF→Int
 | []=>0
 | f::r=>if farmErr l f≠0 then farmErr l f else allErr l r
def allAw (l:YLaw) (F:List FarmF):List Awd:=F.flatMap (farmAw l)
def assErr (l:YLaw) (F:List FarmF):Int :=
 if chkF l F≠0 then chkF l F else if allErr l F≠0 then allErr l F else if 64<(allAw l F).length then 1 else En.err l.env l.unit (cappeds (allAw l F))
def assess (l:YLaw) (F:List FarmF):List Awd:=if assErr l F≠0 then [] else setDue (allAw l F) (En.scale l.env l.unit (cappeds (allAw l F)))
def total (A:List Awd):Int:=Sh.sum (A.map (·.due))
end Go.Proofs.YtljibgchickcpaaGreatDoor.As
namespace Go.Proofs.YtljibgchickcpaaGreatDoor
open Go.RowKit
def Pairs (w:World) (p:Option Addr) (D:List (Int × Int)):Prop :=
 D.length≤maxLen∧(D = []∨∃b off,p=some ⟨b,off,none⟩∧b<w.heap.size ∧
  ∀j,j<D.length→w.cell? ⟨b,off+j*2,none⟩=some (I O (D.getD j (0,0)).1)∧w.cell? ⟨b,off+j*2+1,none⟩=some (I O (D.getD j (0,0)).2))
theorem Pairs.nil (w:World)(p:Option Addr):Pairs w p []:=⟨by simp,.inl rfl⟩
theorem Pairs.below {w w' : World}{p:Option Addr}{D:List (Int × Int)}(h:Pairs w p D)(hb:Below w.heap.size w w'):Pairs w' p D:=by
 refine⟨h.1,?_⟩
 rcases h.2 with h|⟨b,off,hp,hl,hc⟩
 ·exact .inl h
 ·exact .inr ⟨b,off,hp,nll hl hb.size,fun j hj=>⟨(hb.cell (p:=⟨b,off+j*2,none⟩) hl).trans (hc j hj).1,(hb.cell (p:=⟨b,off+j*2+1,none⟩) hl).trans (hc j hj).2⟩⟩
theorem Pairs.get {w:World}{p:Option Addr}{D:List (Int × Int)}(h:Pairs w p D){k:Nat}(hk:k<D.length) :
  ∃b off x y,p=some ⟨b,off,none⟩∧b<w.heap.size∧w.cell? ⟨b,off+k*2,none⟩=some (I O x)∧w.cell? ⟨b,off+k*2+1,none⟩=some (I O y)∧Hid (D.getD k (0,0)=(x,y)):=by
 rcases h.2 with rfl|⟨b,off,hp,hl,hc⟩
 ·simp at hk
 ·exact⟨b,off,_,_,hp,hl,(hc k hk).1,(hc k hk).2,rfl⟩
theorem Pairs.len {w:World}{p:Option Addr}{D:List (Int × Int)}(h:Pairs w p D):D.length≤9223372036854775807:=by
 have:=h.1;unfold maxLen at this;omega
/-! ### a slice of pairs that the call itself appends to_ -/
def pcells (D:List (Int × Int)):List Value:=D.flatMap fun d => [I O d.1,I O d.2]
theorem pcells_append (D E:List (Int × Int)):pcells (D++E)=pcells D++pcells E:=by unfold pcells;rw[List.flatMap_append]
theorem pcells_at (D:List (Int × Int))(j:Nat)(hj:j<D.length):(pcells D)[j*2]?=some (I O (D.getD j (0,0)).1)∧(pcells D)[j*2+1]?=some (I O (D.getD j (0,0)).2):=by
 induction D generalizing j with
 | nil=>simp at hj
 | cons d D ih =>
   show([Value.int .i64 d.1,I O d.2]++pcells D)[j*2]?=_∧([Value.int .i64 d.1,I O d.2]++pcells D)[j*2+1]?=_
   match j with
   | 0=>exact⟨rfl,rfl⟩
   | j+1 =>
     have h:=ih j (by simpa using hj);rw[List.getElem?_append_right (by simp;omega),List.getElem?_append_right (by simp;omega)];have e1:(j+1)*2 - [Value.int .i64 d.1,I O d.2].length=j*2:=by simp;omega
     have e2:(j+1)*2+1 - [Value.int .i64 d.1,I O d.2].length=j*2+1:=by simp;omega
     rw[e1,e2,h.1,h.2]
     simp
def OwnP (w:World) (T:TypeId) (B:Nat) (v:Value) (D:List (Int × Int)):Prop:=w.ownsRow B T 2 v D.length (pcells D)
theorem OwnP.nil (w:World)(T:TypeId)(B:Nat):OwnP w T B (.slice none 0 0) []:=World.ownsRow_nil w B T 2
theorem OwnP.pairs {w:World}{T:TypeId}{B:Nat}{v:Value}{D:List (Int × Int)}(h:OwnP w T B v D):∃p cap,v = .slice p D.length cap∧Pairs w p D:=by
 rcases h.2 with⟨hv,hn⟩|⟨g,cap,cur,hv,hB,hg,hle,hm,hs,ht⟩
 ·obtain rfl:=List.length_eq_zero_iff.1 hn
  exact⟨none,0,hv,Pairs.nil _ _⟩
 ·have e:∀i v,i<D.length*2→(pcells D)[i]?=some v→w.cell? ⟨g,i,none⟩=some v:=fun i v hi hv=>by
   have:=congrArg (fun l=>l[i]?) ht;simp only[List.getElem?_take,if_pos hi]at this;rw[hv]at this;simp only[World.cell?,hg]
   simpa using this
  refine⟨_,cap,hv,by omega,.inr ⟨g,0,rfl,(Array.getElem?_eq_some_iff.1 hg).1,fun j hj=>?_⟩⟩
  have hp:=pcells_at D j hj;rw[Nat.zero_add];exact⟨e _ _ (by omega) hp.1,e _ _ (by omega) hp.2⟩
theorem OwnP.append {P:Program}{T TS:TypeId}{i0:TypeInfo}(hi:P.info? T=some i0)(hz0:i0.zero=some (.agg #[I O 0,I O 0]))(hz1:i0.size=2)(hz2:i0.bytes=16)(ht:P.underlying TS=some (.slice T)){w:World}{ops:Array Oper}{rest:List Oper}{o:Oper}{a:Act}{Q:Exit→Act→World→Prop}(hgd:o.guard=none)(s x:Operand)
  (ho:o.op = .call { callee := .builtin .append,args:=#[s,x],argTypes:=#[TS,TS] }) (B:Nat) (v:Value) (D:List (Int × Int)) (y z:Int) (hown:OwnP w T B v D) (hs:a.eval s=v)
  (hx:a.eval x = .slice (some ⟨w.heap.size,0,none⟩) 1 1) (hB:B≤w.heap.size) (hn:D.length<1099511627776)
  (h:∀v' w', OwnP w' T B v' (D ++ [(y,z)])→Below B w w' → wpList P ops Q rest (a.put o.dst v') w'):wpList P ops Q (o::rest) a (w.alloc (.cells #[I O y,I O z] T)):=by
 refine wpList_append_own _ hgd s x TS ho B T i0 (.agg #[I O 0,I O 0]) 2 16 ht hi hz0 hz1 hz2 rfl (by decide) v D.length (pcells D) hs (World.ownsRow.alloc hown _) ⟨w.heap.size,0,none⟩ 1 1 [I O y,I O z] hx rfl ?_ (by simp[Value.oneCell']) (by unfold maxLen;omega) (by omega) (by simp;omega) ?_
 ·intro j u hu
  match j,hu with
  | 0,hu=>simp at hu;subst hu;go_simp
  | 1,hu=>simp at hu;subst hu;go_simp
 intro v' w' h1 h2 _;refine h v' w' ?_ ?_
 ·unfold OwnP
  rw[lap,pcells_append];exact h1
 ·refine(((brf B w).alloc hB _).grown h2 (by simp;omega) fun k hk=>?_)
  exact(World.ownsRow.lt hown k hk).1
def mod (k n:Int):Int:=if n<1 then 0 else k % n
theorem mod_bd (k:Int){n:Int}(h:1≤n):0≤mod k n∧mod k n<n:=by
 unfold mod;rw[if_neg (by omega)];exact⟨Int.emod_nonneg _ (by omega),Int.emod_lt_of_pos _ (by omega)⟩
theorem mod_any (k n:Int)(w:World)(_hk : -9223372036854775808≤k)(hn:n≤9223372036854775807) :
  Calls Tryz.prog 10 #[I O k,I O n] w fun e w' => e = .returned (I O (mod k n))∧w=w' :=by
 unfold mod
 by_cases h:n<1
 ·rw[if_pos h]
  go_enter Tryz.func10,Tryz.ntmps10
  go_wp2
  go_ret
  exact⟨rfl,rfl⟩
 ·rw[if_neg h]
  have h2:=Int.tmod_eq_emod (a:=k) (b:=n);have e1:=Int.emod_lt_of_pos k (show 0<n by omega);have e2:=Int.emod_nonneg k (show n≠0 by omega);have hm:k.tmod n<0∧k.tmod n+n=k % n∨¬k.tmod n<0∧k.tmod n=k % n:=by
   by_cases hc:0≤k∨n ∣ k
   ·rw[if_pos hc]at h2;omega
   ·rw[if_neg hc]at h2
    have:k % n≠0:=fun e=>hc (.inr (Int.dvd_of_emod_eq_zero e))
    omega
  have hz:¬n=0:=by omega
  generalize k % n=q at *;clear h2;have hb : -9223372036854775808≤k.tmod n∧k.tmod n≤9223372036854775807:=by omega
  generalize hT:k.tmod n=t at *
  rcases hm with⟨m1,m2⟩|⟨m1,m2⟩
  ·have M:=mh m2
   clear m2;have mm:IntKind.i64.wrap (t+n)=t+n:=IntWalk.i64_in _ ⟨by omega,by have:=M.out;omega⟩
   go_enter Tryz.func10,Tryz.ntmps10
   go_wp2
   go_ret
   exact⟨ret_int (by rw[← M.out]),rfl⟩
  ·subst m2
   go_enter Tryz.func10,Tryz.ntmps10
   go_wp2
   go_ret
   exact⟨rfl,rfl⟩
structure But (t:Nat) (w w' : World):Prop where
 os:w'.os=w.os
 tape:w'.tape=w.tape
 output:w'.output=w.output
 size:w.heap.size≤w'.heap.size
 block:∀k,k<w.heap.size→k≠t→w'.heap[k]?=w.heap[k]?
theorem But.refl (t:Nat)(w:World):But t w w:=⟨rfl,rfl,rfl,Nat.le_refl _,fun _ _ _=>rfl⟩
theorem But.trans {t:Nat}{a b c:World}(h:But t a b)(k:But t b c):But t a c :=
 ⟨k.os.trans h.os,k.tape.trans h.tape,k.output.trans h.output,Nat.le_trans h.size k.size,fun i hi hn=>(k.block i (nll hi h.size) hn).trans (h.block i hi hn)⟩
theorem But.of_below {t:Nat}{a b:World}(h:Below a.heap.size a b):But t a b:=⟨h.os,h.tape,h.output,h.size,fun i hi _=>h.block i hi⟩
theorem But.below {t B:Nat}{a b:World}(h:But t a b)(hB:B≤t)(hs:B≤a.heap.size):Below B a b:=⟨h.os,h.tape,h.output,h.size,fun i hi=>h.block i (by omega) (by omega)⟩
theorem But.cell {t:Nat}{a b:World}(h:But t a b){p:Addr}(hp:p.block<a.heap.size)(hn:p.block≠t):b.cell? p=a.cell? p:=World.cell?_of_block (w:=a) (h.block p.block hp hn)
theorem Ints.but {w w' : World}{t:Nat}{p:Option Addr}{l:List Int}(h:Ints w p l)(hb:But t w w')(hp:l = []∨∀a,p=some a→a.block≠t):Ints w' p l:=by
 refine⟨h.1,?_⟩
 rcases h.2 with e|⟨b,off,e,hl,hc⟩
 ·exact .inl e
 rcases hp with e0|hp
 ·exact .inl e0
 ·exact .inr ⟨b,off,e,nll hl hb.size,fun j hj=>(hb.cell (p:=⟨b,off+j,none⟩) hl (hp ⟨b,off,none⟩ e)).trans (hc j hj)⟩
structure TapeAt (w:World) (t:Nat) (l:List Int) (n:Nat):Prop where
 row:∃p cap,w.cell? ⟨t,0,none⟩=some (.slice p l.length cap)∧Ints w p l∧(l = []∨∀a,p=some a→a.block<t)
 at_:w.cell? ⟨t,1,none⟩=some (I O (n:Int))
 fz:w.frozen? ⟨t,1,none⟩=false
 le:n≤l.length
 wf:∀x∈l, -9223372036854775808≤x∧x≤9223372036854775807
 lt:t<w.heap.size
 len:l.length≤400
def gives (l:List Int) (at_:Nat) (n:Int):Int:=if l.length≤at_ then 0 else mod (l.getD at_ 0) n
def taken (l:List Int) (at_:Nat):Nat:=if l.length≤at_ then at_ else at_+1
theorem gives_bd (l:List Int)(a:Nat){n:Int}(h:1≤n):0≤gives l a n∧gives l a n<n:=by
 unfold gives
 split
 ·omega
 ·exact mod_bd _ h
theorem TapeAt.belowB {w w' : World}{t B:Nat}{l:List Int}{n:Nat}(h:TapeAt w t l n)(hb:Below B w w')(hB:t<B):TapeAt w' t l n:=by
 obtain⟨p,cap,h1,h2,h3⟩:=h.row;refine⟨⟨p,cap,(hb.cell (p:=⟨t,0,none⟩) hB).trans h1,⟨h2.1,?_⟩,h3⟩,(hb.cell (p:=⟨t,1,none⟩) hB).trans h.at_,(hb.frozen (p:=⟨t,1,none⟩) hB).trans h.fz,h.le,h.wf,nll h.lt hb.size,h.len⟩
 rcases h2.2 with e|⟨b,off,e,hl,hc⟩
 ·exact .inl e
 rcases h3 with e0|h3
 ·exact .inl e0
 ·have hbt:b<t:=h3 ⟨b,off,none⟩ e
  exact .inr ⟨b,off,e,nll hl hb.size,fun j hj=>(hb.cell (p:=⟨b,off+j,none⟩) (by show b<B;omega)).trans (hc j hj)⟩
theorem TapeAt.below {w w' : World}{t:Nat}{l:List Int}{n:Nat}(h:TapeAt w t l n)(hb:Below w.heap.size w w'):TapeAt w' t l n:=h.belowB hb h.lt
theorem getD_bd {l:List Int}(h:∀x∈l, -9223372036854775808≤x∧x≤9223372036854775807)(k:Nat) : -9223372036854775808≤l.getD k 0∧l.getD k 0≤9223372036854775807:=by
 rw[List.getD_eq_getElem?_getD]
 rcases Nat.lt_or_ge k l.length with hi|hi
 ·rw[List.getElem?_eq_getElem hi];exact h _ (List.getElem_mem hi)
 ·rw[List.getElem?_eq_none hi];decide
theorem new_any (a:Option Addr)(len cap:Nat)(z:List Int)(w:World)(h:IsRow .i64 w a len cap z) :
  Calls Tryz.prog 7 #[.slice a len cap] w fun e w' => e = .returned (.pointer (some ⟨w.heap.size,0,none⟩))∧TapeAt w' w.heap.size ((z.take len).take 400) 0∧Below w.heap.size w w' :=by
 obtain⟨hI,hL⟩:=h.ints;have hl:=h.len;have hwf:∀x∈(z.take len).take 400, -9223372036854775808≤x∧x≤9223372036854775807:=fun x hx=>by
  have:=h.wf x (List.mem_of_mem_take (List.mem_of_mem_take hx))
  simpa [Lit.wf,IntKind.min,IntKind.max,IntKind.signed,IntKind.bits] using this
 have hcap:len≤cap:=by rcases h with⟨_,rfl,rfl,_⟩|⟨_,_,h1,_⟩<;>omega
 have hm:len≤9223372036854775807:=by have:=hl.2;unfold maxLen at this;omega
 have hne:∀x,a=some x→x.block<w.heap.size∨len=0:=fun x e=>by
  by_cases h0:len=0
  ·exact .inr h0
  ·obtain⟨b,off,y,e2,hb,_⟩:=h.get (i:=0) (by omega)
   rw[e]at e2
   cases e2
   exact .inl hb
 have hne2:(z.take len).take 400 = []∨∀x,a=some x→x.block<w.heap.size:=by
  by_cases h0:len=0
  ·left;subst h0;simp
  ·right;intro x e;rcases hne x e with h|h<;>omega
 have hT:((z.take len).take 400).length=min len 400:=by rw[List.length_take,hL];omega
 have hI2:Ints w a ((z.take len).take 400):=by
  refine⟨by rw[hT];unfold maxLen;omega,?_⟩
  rcases hI.2 with e|⟨b,off,e,hb,hc⟩
  ·left;rw[e];simp
  ·exact .inr ⟨b,off,e,hb,fun j hj=>by
    rw[hc j (by rw[hT]at hj;rw[hL];omega)];rw[hT]at hj;simp only[List.getD_eq_getElem?_getD,List.getElem?_take]
    rw[if_pos (show j<400 by omega)]⟩
 have HW:=mh hwf;have HI:=mh hI2;have HN:=mh hne2;generalize (z.take len).take 400=l at *;clear hwf hI2 hne2 hne hI hL hl h;have HT:=mh hT;clear hT
 go_enter Tryz.func7,Tryz.ntmps7
 go_wp2
 go_ret
 have e:(min (len:Int) 400).toNat=l.length:=by rw[HT.out];omega
 rw[e];refine⟨rfl,⟨⟨a,cap,by go_simp,HI.out.below ((brf _ _).alloc mle _),HN.out⟩,by go_simp,by go_simp,Nat.zero_le _,HW.out,by simp,by rw[HT.out];omega⟩,by go_grown⟩
theorem next_any (t:Nat)(l:List Int)(k:Nat)(n:Int)(w:World)(h:TapeAt w t l k)(hn:n≤9223372036854775807) :
  Calls Tryz.prog 28 #[.pointer (some ⟨t,0,none⟩),I O n] w fun e w' => e = .returned (I O (gives l k n))∧TapeAt w' t l (taken l k)∧But t w w' :=by
 obtain⟨p,cap,h1,h2,h3⟩:=h.row;have h4:=h.at_;have h5:=h.fz;have h6:=h.len;have hH:=mh h
 by_cases hk:l.length≤k
 ·have e1:gives l k n=0:=by unfold gives;rw[if_pos hk]
  have e2:taken l k=k:=by unfold taken;rw[if_pos hk]
  rw[e1,e2];clear h h3 e1 e2;have h2' := mh h2;clear h2
  go_enter Tryz.func28,Tryz.ntmps28
  go_wp2_with fail
  go_quiet (fail)
  go_wp2
  go_ret
  exact⟨rfl,hH.out.below (drewN_below _ _),But.of_below (drewN_below _ _)⟩
 ·have hkl:k<l.length:=by omega
  obtain⟨b,off,x,rfl,hb,hc,hx⟩:=h2.get hkl;have hbt:b≠t:=by
   rcases h3 with e0|h3
   ·subst e0;simp at hkl
   ·exact Nat.ne_of_lt (h3 _ rfl)
  have e1:gives l k n=mod x n:=by unfold gives;rw[if_neg hk,hx.out]
  have e2:taken l k=k+1:=by unfold taken;rw[if_neg hk]
  have hxb:=getD_bd h.wf k;rw[hx.out]at hxb;have hmod:=fun w=>mod_any x n w hxb.1 hn
  rw[e1,e2];have HM:=mh hmod;have h2' := mh h2;have h3' := mh h3;clear h h2 e1 e2 h3 hmod;have hk0:(0:Int)≤(k:Int):=inn _;have hk1:(k:Int)<(l.length:Int):=by omega
  have hz1:(k:Int)+1 - 1=(k:Int):=by omega
  go_enter Tryz.func28,Tryz.ntmps28
  go_wp2_with fail
  go_quiet (fail)
  go_wp2_with fail
  have g1:((w.drewN nq).setCell ⟨t,1,none⟩ (I O ((k:Int)+1))).cell? ⟨t,0,none⟩=some (.slice (some ⟨b,off,none⟩) l.length cap):=by
   rw[World.cell?_setCell_other _ _ _ _ (by intro e;cases e)];exact h1
  have g2:((w.drewN nq).setCell ⟨t,1,none⟩ (I O ((k:Int)+1))).cell? ⟨t,1,none⟩=some (I O ((k:Int)+1)):=World.cell?_setCell_same _ _ _ (show(w.drewN nq).cell? _=_ from h4);have g3:((w.drewN nq).setCell ⟨t,1,none⟩ (I O ((k:Int)+1))).cell? ⟨b,off+k,none⟩=some (I O x):=by
   exact cell_other (show(w.drewN nq).cell? _=_ from hc) (fun e=>hbt e.symm)
  have g4:((w.drewN nq).setCell ⟨t,1,none⟩ (I O ((k:Int)+1))).frozen? ⟨t,1,none⟩=false:=by rw[World.frozen?_setCell];exact h5
  have g5:But t w ((w.drewN nq).setCell ⟨t,1,none⟩ (I O ((k:Int)+1))) :=
   ⟨rfl,rfl,rfl,by simp[World.setCell,World.drewN],fun i _ hn=>Below.heap_setCell (w.drewN nq) _ _ _ hn⟩
  have G5:=mh g5;clear g5;generalize (w.drewN nq).setCell ⟨t,1,none⟩ (I O ((k:Int)+1))=W at *;clear h1 h4 hc h5
  go_quiet ((go_at_call 10;exact Calls.quiet_of_same (Calls.turn (HM.out _))))
  go_wp2
  go_ret
  refine⟨rfl,?_,G5.out.trans (But.of_below (drewN_below _ _))⟩
  have hbb:∀a,some (⟨b,off,none⟩:Addr)=some a→a.block≠t:=fun a e=>by cases e;exact hbt
  have hb3:=h3'.out;exact⟨⟨_,cap,g1,(h2'.out.but G5.out (.inr hbb)).below (drewN_below _ _),hb3⟩,g2,g4,by omega,hH.out.wf,nll hH.out.lt G5.out.size,h6⟩
theorem range_any (t:Nat)(l:List Int)(k:Nat)(low high:Int)(w:World)(h:TapeAt w t l k)(h0 : -1125899906842624≤low)(h1:low≤high)(h2:high≤1125899906842624) :
  Calls Tryz.prog 29 #[.pointer (some ⟨t,0,none⟩),I O low,I O high] w fun e w' => e = .returned (I O (low+gives l k (high - low+1)))∧TapeAt w' t l (taken l k)∧But t w w' :=by
 have hn:=next_any t l k (high - low+1) w h (by omega);obtain⟨g1,g2⟩:=gives_bd l k (n:=high - low+1) (by omega);have HN:=mh hn;clear hn h;generalize gives l k (high - low+1)=g at *
 go_enter Tryz.func29,Tryz.ntmps29
 go_wp2_with (first|(go_at_call 28;refine(HN.out).mono ?_;rintro e w1 ⟨rfl,ht,hb⟩))
 go_ret
 exact⟨rfl,ht,hb⟩
/-! ### some numbers, one after the other -/
theorem one_any (t:Nat)(l:List Int)(k:Nat)(n:Int)(w:World)(h:TapeAt w t l k)(h1:1≤n)(hn:n≤9223372036854775807) :
  Calls Tryz.prog 51 #[.pointer (some ⟨t,0,none⟩),I O n] w fun e w' => e = .returned (.bool (gives l k n==n - 1))∧TapeAt w' t l (taken l k)∧But t w w' :=by
 have hn1:=next_any t l k n w h hn;obtain⟨g1,g2⟩:=gives_bd l k h1;have HN:=mh hn1;clear hn1 h;generalize gives l k n=g at *
 go_enter Tryz.func51,Tryz.ntmps51
 go_wp2_with (first|(go_at_call 28;refine(HN.out).mono ?_;rintro e w1 ⟨rfl,ht,hb⟩))
 go_ret
 exact⟨rfl,ht,hb⟩
theorem But.stp {t:Nat}{a b c:World}(h:But t a b)(hb:Below a.heap.size b c):But t a c :=
 ⟨hb.os.trans h.os,hb.tape.trans h.tape,hb.output.trans h.output,Nat.le_trans h.size hb.size,fun i hi hn=>(hb.block i hi).trans (h.block i hi hn)⟩
theorem But.stpB {t B:Nat}{a b c:World}(h:But t a b)(hb:Below B b c)(hB:a.heap.size≤B):But t a c :=
 ⟨hb.os.trans h.os,hb.tape.trans h.tape,hb.output.trans h.output,Nat.le_trans h.size hb.size,fun k hk hne=>(hb.block k (nll hk hB)).trans (h.block k hk hne)⟩
theorem But.nxt {t:Nat}{a b c:World}(h:But t a b)(hb:Below b.heap.size b c):But t a c:=h.stp (hb.mono h.size)
theorem But.drew {t:Nat}{a b:World}(h:But t a b):But t a b.drew:=h.stp ((brf _ _).drew)
theorem OwnR.but {α:Type}{S:Shape α}{w w' : World}{T:TypeId}{B t:Nat}{v:Value}{L:List α}(h:OwnR S w T B v L)(hb:But t w w')(hB:t<B):OwnR S w' T B v L :=
 h.blocks fun g _ hg hl=>hb.block g hl (by omega)
end Go.Proofs.YtljibgchickcpaaGreatDoor
