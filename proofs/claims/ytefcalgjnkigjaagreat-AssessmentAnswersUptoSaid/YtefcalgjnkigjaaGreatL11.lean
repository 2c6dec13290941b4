/- Packed. -/
import Derived.Test.YtefcalgjnkigjaaGreatL10
set_option maxHeartbeats 1000000
open Go.Value renaming int → I
open Go.IntKind renaming i64 → O
namespace Go.Proofs.YtefcalgjnkigjaaGreat.Ce
def fr (l:List (Int × Int)) (i:Nat):Int:=(l.getD i (0,0)).1
def mi (l:List (Int × Int)) (i:Nat):Int:=(l.getD i (0,0)).2
def okAt (l:List (Int × Int)) (i:Nat):Bool :=
 En.money (fr l i)&&decide (0≤mi l i)&&decide (mi l i≤1000)&&(decide (i=0)||(decide (fr l (i - 1)<fr l i)&&decide (mi l (i - 1)≤mi l i)))
structure Right (l:List (Int × Int)):Prop where
 len:l.length≤6
 ok:∀i,i<l.length→okAt l i=true
def chk (l:List (Int × Int)):Int:=if l.length≤6∧((List.range l.length).all (okAt l))=true then 0 else 66
theorem chk_zero {l:List (Int × Int)}:chk l=0↔Right l:=by
 unfold chk
 constructor
 ·intro h
  split at h
  ·rename_i hc
   exact⟨hc.1,fun i hi=>List.all_eq_true.1 hc.2 i (List.mem_range.2 hi)⟩
  ·omega
 ·intro h
  rw[if_pos ⟨h.len,List.all_eq_true.2 fun i hi=>h.ok i (List.mem_range.1 hi)⟩]
theorem chk_not {l:List (Int × Int)}(h:¬Right l):chk l=66:=by
 unfold chk;rw[if_neg];exact fun hc=>h ⟨hc.1,fun i hi=>List.all_eq_true.1 hc.2 i (List.mem_range.2 hi)⟩
theorem okAt_iff {l:List (Int × Int)}{i:Nat}:okAt l i=true↔(0≤fr l i∧fr l i≤68719476736)∧0≤mi l i∧mi l i≤1000∧(i=0∨fr l (i - 1)<fr l i∧mi l (i - 1)≤mi l i):=by
 unfold okAt;simp only[Bool.and_eq_true,Bool.or_eq_true,decide_eq_true_eq,En.money_iff,and_assoc]
variable {l m:List (Int × Int)} {a b:Int}
theorem Right.fr0 (h:Right l){i:Nat}(hi:i<l.length):0≤fr l i∧fr l i≤68719476736:=(okAt_iff.1 (h.ok i hi)).1
theorem Right.mi0 (h:Right l){i:Nat}(hi:i<l.length):0≤mi l i∧mi l i≤1000:=⟨(okAt_iff.1 (h.ok i hi)).2.1,(okAt_iff.1 (h.ok i hi)).2.2.1⟩
theorem Right.step (h:Right l){i:Nat}(hi:i+1<l.length):fr l i<fr l (i+1):=by
 rcases (okAt_iff.1 (h.ok (i+1) hi)).2.2.2 with h|h
 ·omega
 ·exact h.1
theorem Right.first (h:Right l){i:Nat}(hi:i<l.length):fr l 0≤fr l i:=by
 induction i with
 | zero=>exact Int.le_refl _
 | succ i ih =>
   have:=ih (by omega);have:=h.step hi;omega
/-! ### what is qM away -/
def till (l:List (Int × Int)) (a:Int) (i:Nat):Int:=if i+1<l.length then min a (fr l (i+1)) else a
def span (l:List (Int × Int)) (a:Int) (i:Nat):Int:=max 0 (till l a i - fr l i)
def cut (l:List (Int × Int)) (a:Int) (i:Nat):Int:=Ex.up (span l a i*mi l i) 1000
def cuts (l:List (Int × Int)) (a:Int):Nat→Int
 | 0=>0
 | k+1=>cuts l a k+cut l a k
def red (l:List (Int × Int)) (a:Int):Int:=a - cuts l a l.length
def bA (l:List (Int × Int)) (a:Int):Nat→Int
 | 0=>0
 | k+1=>bA l a k+span l a k
theorem up_eq {n:Int}(h0:0≤n)(h1:n≤1125899906842624):Ex.up n 1000 = -((-n) / 1000):=by
 unfold Ex.up Ex.down;rw[if_pos (Ex.fits_of (by omega) (by omega) (by omega) (by omega))]
theorem up_cut {x m:Int}(x0:0≤x)(x1:x≤68719476736)(m0:0≤m)(m1:m≤1000):Ex.up (x*m) 1000 = -((-(x*m)) / 1000)∧0≤x*m∧x*m≤x*1000:=by
 have h0:0≤x*m:=Int.mul_nonneg x0 m0;have h1:x*m≤x*1000:=Int.mul_le_mul_of_nonneg_left m1 x0;exact⟨up_eq h0 (by omega),h0,h1⟩
theorem up_bd {x m:Int}(x0:0≤x)(x1:x≤68719476736)(m0:0≤m)(m1:m≤1000):0≤Ex.up (x*m) 1000∧Ex.up (x*m) 1000≤x:=by
 obtain⟨e,h0,h1⟩:=up_cut x0 x1 m0 m1;rw[e];generalize x*m=p at *;omega
theorem Right.span_bd (h:Right l)(_a0:0≤a)(a1:a≤68719476736){i:Nat}(hi:i<l.length):0≤span l a i∧span l a i≤68719476736:=by
 have:=h.fr0 hi;unfold span till
 split<;>omega
theorem Right.cut_bd (h:Right l)(a0:0≤a)(a1:a≤68719476736){i:Nat}(hi:i<l.length):0≤cut l a i∧cut l a i≤span l a i:=by
 have hs:=h.span_bd a0 a1 hi;have hm:=h.mi0 hi;exact up_bd hs.1 hs.2 hm.1 hm.2
theorem Right.cuts_bd (h:Right l)(a0:0≤a)(a1:a≤68719476736){k:Nat}(hk:k≤l.length):0≤cuts l a k∧cuts l a k≤bA l a k:=by
 induction k with
 | zero=>exact⟨Int.le_refl _,Int.le_refl _⟩
 | succ k ih =>
   have:=ih (by omega);have:=h.cut_bd a0 a1 (show k<l.length by omega);unfold cuts bA;omega
theorem Right.spans_eq (h:Right l){k:Nat}(hk:k<l.length):bA l a (k+1)=max 0 (till l a k - fr l 0):=by
 induction k with
 | zero=>unfold bA bA span;omega
 | succ k ih =>
   have e:=ih (by omega);have s1:=h.step hk;have s2:=h.first (show k+1<l.length from hk)
   have s3:k+1+1<l.length→fr l (k+1)<fr l (k+1+1):=fun hh=>h.step hh
   show bA l a (k+1)+span l a (k+1)=_
   rw[e];unfold span till;rw[if_pos (show k+1<l.length from hk)]
   split
   ·have:=s3 (by assumption);omega
   ·omega
theorem Right.spans_all (h:Right l):bA l a l.length=if l.length=0 then 0 else max 0 (a - fr l 0):=by
 by_cases hz:l.length=0
 ·rw[if_pos hz,hz];rfl
 ·rw[if_neg hz]
  obtain⟨n,hn⟩:∃n,l.length=n+1:=⟨l.length - 1,by omega⟩;rw[hn,h.spans_eq (by omega)];unfold till;rw[if_neg (by omega)]
theorem Right.red_bd (h:Right l)(a0:0≤a)(a1:a≤68719476736):0≤red l a∧red l a≤a:=by
 have hc:=h.cuts_bd a0 a1 mle;have hs:=h.spans_all (a:=a);unfold red
 split at hs
 ·omega
 ·have:=h.fr0 (i:=0) (by omega)
  omega
theorem Right.red_part (h:Right l)(a0:0≤a)(a1:a≤68719476736){k:Nat}(hk:k≤l.length):0≤a - cuts l a k∧a - cuts l a k≤a:=by
 have hc:=h.cuts_bd a0 a1 hk;refine⟨?_,by omega⟩
 by_cases hz:k=0
 ·subst hz;unfold cuts;omega
 ·obtain⟨n,hn⟩:∃n,k=n+1:=⟨k - 1,by omega⟩
  subst hn;have hs:=h.spans_eq (a:=a) (k:=n) (by omega);have:=h.fr0 (i:=0) (by omega);have:=h.fr0 (i:=n) (by omega);unfold till at hs
  split at hs<;>omega
/-! ### a farm -/
def redErr (l:List (Int × Int)) (a:Int):Int:=if chk l≠0 then 66 else if En.money a=false then 67 else 0
def redVal (l:List (Int × Int)) (a:Int):Int:=if redErr l a≠0 then 0 else red l a
def sumErr (xs:List Int):Int:=if (xs.any fun x => !En.money x)=true∨En.money (Sh.sum xs)=false then 67 else 0
def farmErr (l:List (Int × Int)) (cap:Int) (xs:List Int):Int:=if chk l≠0 then 66 else if En.money cap=false then 67 else if 16<xs.length then 1 else sumErr xs
def farmLeft (l:List (Int × Int)) (cap:Int) (xs:List Int):Int:=min cap (red l (Sh.sum xs))
def farm (l:List (Int × Int)) (cap:Int) (xs:List Int):List Int :=
 if farmErr l cap xs≠0 then [] else if farmLeft l cap xs=Sh.sum xs then xs else jD (farmLeft l cap xs) xs
structure Fine (l:List (Int × Int)) (cap:Int) (xs:List Int):Prop where
 right:Right l
 cap0:0≤cap
 cap1:cap≤68719476736
 len:xs.length≤16
 all:∀x∈xs,0≤x∧x≤68719476736
 sum:Sh.sum xs≤68719476736
variable {xs:List Int} {cap:Int}
theorem fine_of (h:farmErr l cap xs=0):Fine l cap xs:=by
 unfold farmErr at h
 by_cases h1:chk l≠0
 ·rw[if_pos h1]at h;omega
 rw[if_neg h1]at h
 by_cases h2:En.money cap=false
 ·rw[if_pos h2]at h;omega
 rw[if_neg h2]at h
 by_cases h3:16<xs.length
 ·rw[if_pos h3]at h;omega
 rw[if_neg h3]at h;unfold sumErr at h
 by_cases h4:(xs.any fun x => !En.money x)=true∨En.money (Sh.sum xs)=false
 ·rw[if_pos h4]at h;omega
 have m:=En.money_iff.1 (show En.money cap=true by simpa using h2);have h5:(xs.any fun x => !En.money x)=false:=Bool.eq_false_iff.2 fun h=>h4 (.inl h)
 have h6:En.money (Sh.sum xs)=true:=by simpa using fun h=>h4 (.inr h)
 rw[List.any_eq_false]at h5;exact⟨chk_zero.1 (by omega),m.1,m.2,by omega,fun x hx=>En.money_iff.1 (by simpa using h5 x hx),(En.money_iff.1 h6).2⟩
theorem Fine.sum0 (h:Fine l cap xs):0≤Sh.sum xs:=Sh.sum_nonneg fun x hx=>(h.all x hx).1
theorem Fine.sumErr (h:Fine l cap xs):sumErr xs=0:=by
 have h4:(xs.any fun x => !En.money x)=false:=by
  rw[List.any_eq_false];intro x hx;rw[En.money_iff.2 (h.all x hx)]
  simp
 unfold Ce.sumErr;rw[if_neg];rintro (h1|h1)
 ·rw[h4]at h1;cases h1
 ·rw[En.money_iff.2 ⟨h.sum0,h.sum⟩]at h1;cases h1
theorem Fine.err (h:Fine l cap xs):farmErr l cap xs=0:=by
 unfold farmErr;rw[if_neg (by rw[chk_zero.2 h.right];simp),if_neg (by rw[En.money_iff.2 ⟨h.cap0,h.cap1⟩];simp),if_neg (by have:=h.len;omega)];exact h.sumErr
theorem Fine.left (h:Fine l cap xs):0≤farmLeft l cap xs∧farmLeft l cap xs≤Sh.sum xs:=by
 have:=h.right.red_bd h.sum0 h.sum;have:=h.cap0;unfold farmLeft;omega
theorem Fine.shErr (h:Fine l cap xs):shErr (farmLeft l cap xs) xs=0:=by
 have h1:=h.left;have h2:=h.sum;have h4:(xs.any fun x => !Sh.limited x)=false:=by
  rw[List.any_eq_false];intro x hx;have:=h.all x hx;rw[Sh.limited_iff.2 ⟨by omega,by omega⟩]
  simp
 unfold Go.Proofs.YtefcalgjnkigjaaGreat.shErr;rw[if_neg (by have:=h.len;omega),if_neg];rintro (h5|h5)
 ·rw[Sh.limited_iff.2 ⟨by omega,by omega⟩]at h5;cases h5
 ·rw[h4]at h5;cases h5
theorem Fine.right' (h:Fine l cap xs)(hne:farmLeft l cap xs≠Sh.sum xs):Sh.Right (farmLeft l cap xs) xs∧farm l cap xs=Sh.shares (farmLeft l cap xs) xs:=by
 have h1:=h.left;have h2:=h.sum;have hs:Sh.sum xs≠0:=by omega
 refine⟨⟨h1.1,by omega,fun x hx=>by have:=h.all x hx;omega,hs⟩,?_⟩
 unfold farm jD;rw[if_neg (by rw[h.err];simp),if_neg hne,if_neg (by rw[h.shErr];simp),if_neg hs]
theorem Fine.same (h:Fine l cap xs)(he:farmLeft l cap xs=Sh.sum xs):farm l cap xs=xs:=by
 unfold farm;rw[if_neg (by rw[h.err];simp),if_pos he]
theorem Fine.farm_len (h:Fine l cap xs):(farm l cap xs).length=xs.length:=by
 by_cases he:farmLeft l cap xs=Sh.sum xs
 ·rw[h.same he]
 ·rw[(h.right' he).2];unfold Sh.shares;simp
theorem Fine.farm_bd (h:Fine l cap xs)(i:Nat)(hi:i<xs.length):0≤(farm l cap xs).getD i 0∧(farm l cap xs).getD i 0≤xs.getD i 0:=by
 by_cases he:farmLeft l cap xs=Sh.sum xs
 ·rw[h.same he,List.getD_eq_getElem?_getD,List.getElem?_eq_getElem hi]
  exact⟨(h.all _ (List.getElem_mem hi)).1,Int.le_refl _⟩
 ·have h1:=h.left
  rw[(h.right' he).2,Sh.shares_getD _ _ _ hi];exact⟨((h.right' he).1.share_bd i).1,(h.right' he).1.share_le (by omega) hi⟩
end Go.Proofs.YtefcalgjnkigjaaGreat.Ce
namespace Go.Proofs.YtefcalgjnkigjaaGreat.As
open Sc Go.RowKit
structure LineF where
 decl:Int
 sch:Int
 due:List Int
 season:Int
 kind:Int
 area:Int
 border:Int
structure FarmF where
 farm:Int
 day:Int
 lines:List LineF
structure YLaw where
 sch:List Sch
 steps:List (Int × Int)
 late:Lat
 deg:List (Int × Int)
 cap:Int
 env:Int
 unit:Int
 width:Int
structure Awd where
 farm:Int
 scheme:Int
 decl:Int
 det:Int
 paid:Int
 rated:Int
 timely:Int
 capped:Int
 due:Int
structure Rsn where
 line:Int
 scheme:Int
 kind:Int
/-! ### what is right -/
def kG (l:YLaw):Int :=
 if l.sch.length=0 then 17 else if (jU l.sch).2≠0 then (jU l.sch).2 else if Re.chk l.steps≠0 then Re.chk l.steps else if chkL l.late≠0 then chkL l.late else if Ce.chk l.deg≠0 then Ce.chk l.deg
 else if En.money l.cap=false∨En.money l.env=false then 67 else if l.unit<1∨100000<l.unit∨l.width<0∨200<l.width then 2 else 0
structure YOk (l:YLaw):Prop where
 ne:l.sch.length≠0
 sch:jU l.sch=(-1,0)
 steps:Re.Right l.steps
 late:nP l.late
 deg:Ce.Right l.deg
 cap:0≤l.cap∧l.cap≤68719476736
 env:0≤l.env∧l.env≤68719476736
 unit:1≤l.unit∧l.unit≤100000
 width:0≤l.width∧l.width≤200
def factOf (x:LineF) (k:Nat):Fct:=⟨x.decl,x.due.getD k 0,x.season,x.kind,x.area,x.border⟩
def zW (x:LineF) (s:Sch):Bool:=zH x.sch s.num
def allV (L:List Sch):Int:=L.foldl (fun acc s=>bits BinOp.or IntKind.i64 acc (wrap64 (2 ^ s.num.toNat))) 0
def wR (l:YLaw) (x:LineF) (k:Nat):Bool :=
 match l.sch[k]? with
 | some s=>if zW x s then decide (chk28 (factOf x k) l.width=0) else decide (x.due.getD k 0=0)
 | none=>true
def zJ (l:YLaw) (x:LineF):Bool :=
 decide (bits BinOp.andNot IntKind.i64 x.sch (allV l.sch)=0)&&(decide (x.due.length=l.sch.length)&&(decide (0≤x.decl)&&(decide (x.decl≤268435456)&&(List.range l.sch.length).all (wR l x))))
def jZ (K:List LineF):Int:=Sh.sum (K.map (·.decl))
def yB (l:YLaw) (f:FarmF):Bool :=
 decide (1≤f.farm)&&(decide (f.farm≤60)&&(decide (0≤f.day)&&(decide (f.day≤36864)&&(decide (f.lines.length≤20)&&(f.lines.all (zJ l)&&decide (jZ f.lines≤268435456))))))
def zQ (l:YLaw) (F:List FarmF) (i:Nat):Bool :=
 match F[i]? with
 | some f=>yB l f&&(match i with|0=>true|k+1=>match F[k]? with|some g=>decide (g.farm<f.farm)|none=>true)
 | none=>true
def xG (l:YLaw) (F:List FarmF):Int:=if kG l≠0 then kG l else if 10<F.length then 1 else if (List.range F.length).all (zQ l F)=true then 0 else 68
/-! ### awards -/
def yQ (s:Sch) (K:List LineF):Int:=Sh.sum (K.map fun x=>if zW x s then x.decl else 0)
def yY (l:YLaw) (k:Nat) (s:Sch) (K:List LineF):Int:=Sh.sum (K.map fun x=>if zW x s then (det (factOf x k) l.width).1 else 0)
def kM (s:Sch) (K:List LineF):Bool:=K.any fun x=>zW x s
def zA (l:YLaw) (s:Sch) (d n:Int):Int:=if s.least≤n then Re.paidVal l.steps d n else 0
def zL (s:Sch) (p:Int):Int:=min (uK s p) 68719476736
def uF (l:YLaw) (f:FarmF) (k:Nat) (s:Sch):Awd :=
 let d:=yQ s f.lines
 let n:=yY l k s f.lines
 let p:=zA l s d n
 let r:=zL s p
 ⟨f.farm,s.num,d,n,p,r,left l.late f.day r,0,0⟩
def fV (l:YLaw) (f:FarmF) (k:Nat):List Awd:=match l.sch[k]? with|some s=>if kM s f.lines then [uF l f k s] else []|none => []
def qW (l:YLaw) (f:FarmF):Nat→List Awd
 | 0 => []
 | k+1=>qW l f k++fV l f k
def qC (l:YLaw) (f:FarmF):List Awd:=qW l f l.sch.length
def qY (A:List Awd):List Int:=A.map (·.timely)
def qP (A:List Awd):List Int:=A.map (·.capped)
def jT (A:List Awd) (c:List Int):List Awd:=A.mapIdx fun i a=>{ a with capped:=c.getD i 0 }
def vY (A:List Awd) (c:List Int):List Awd:=A.mapIdx fun i a=>{ a with due:=c.getD i 0 }
def gC (l:YLaw) (x:LineF) (i k:Nat):List Rsn:=match l.sch[k]? with|some s=>if zW x s∧(det (factOf x k) l.width).2≠0 then [⟨i,s.num,(det (factOf x k) l.width).2⟩] else []|none => []
def yM (l:YLaw) (x:LineF) (i:Nat):Nat→List Rsn
 | 0 => []
 | k+1=>yM l x i k++gC l x i k
def zV (l:YLaw) (f:FarmF) (i k:Nat):List Rsn:=match f.lines[i]? with|some x=>yM l x i k|none => []
def zZ (l:YLaw) (f:FarmF):Nat→List Rsn
 | 0 => []
 | i+1=>zZ l f i++zV l f i l.sch.length
def xN (l:YLaw) (f:FarmF):List Rsn:=zZ l f f.lines.length
def farmErr (l:YLaw) (f:FarmF):Int:=if xG l [f]≠0 then xG l [f] else Ce.farmErr l.deg l.cap (qY (qC l f))
def jV (l:YLaw) (f:FarmF):List Awd:=if farmErr l f≠0 then [] else jT (qC l f) (Ce.farm l.deg l.cap (qY (qC l f)))
def gD (l:YLaw) (f:FarmF):List Rsn:=if farmErr l f≠0 then [] else xN l f
def jL (l:YLaw):List FarmF→Int
 | []=>0
 | f::r=>if farmErr l f≠0 then farmErr l f else jL l r
def jY (l:YLaw) (F:List FarmF):List Awd:=F.flatMap (jV l)
def jR (l:YLaw) (F:List FarmF):Int :=
 if xG l F≠0 then xG l F else if jL l F≠0 then jL l F else if 64<(jY l F).length then 1 else En.err l.env l.unit (qP (jY l F))
def yP (l:YLaw) (F:List FarmF):List Awd:=if jR l F≠0 then [] else vY (jY l F) (En.scale l.env l.unit (qP (jY l F)))
def total (A:List Awd):Int:=Sh.sum (A.map (·.due))
def qU (A:List Awd) (farm:Int):Int:=Sh.sum (A.map fun a=>if a.farm=farm then a.due else 0)
end Go.Proofs.YtefcalgjnkigjaaGreat.As
namespace Go.Proofs.YtefcalgjnkigjaaGreat
namespace Sc
open Go.Lib Te
def fU (s:Sch):Int × ByteArray × Int:=(s.num,s.nm,s.ex)
def twK (K:List (Int × ByteArray × Int)) (i:Nat) (s:Int × ByteArray × Int):Bool:=(match i with|0=>false|k+1=>match K[k]? with|some p=>decide (s.1≤p.1)|none=>false)||(K.take i).any fun x=>x.2.1.data.toList==s.2.1.data.toList
theorem tH (L:List Sch)(i:Nat)(s:Sch):yH L i s=twK (L.map fU) i (fU s):=by
 unfold yH twK
 congr 1
 ·cases i with
  | zero=>rfl
  | succ k =>
    simp only[List.getElem?_map]
    cases L[k]?<;>rfl
 ·rw[← List.map_take,List.any_map]
  rfl
def mutK (K:List (Int × ByteArray × Int)) (s:Int × ByteArray × Int) (n:Nat):Bool:=if zH s.2.2 n=false then true else match K.find? fun x=>x.1==(n:Int) with|some x=>zH x.2.2 s.1|none=>false
theorem eZ (L:List Sch)(s:Sch)(n:Nat):uW L s n=mutK (L.map fU) (fU s) n:=by
 unfold uW mutK;rw[List.find?_map]
 show(if zH s.ex n=false then true else _)=if zH s.ex n=false then true else _
 split
 ·rfl
 ·show _=match (L.find? fun x=>x.num==(n:Int)).map fU with|some x=>zH x.2.2 s.num|none=>false
  cases L.find? fun x=>x.num==(n:Int)<;>rfl
theorem zXA {L L' : List Sch}{s s' : Sch}(h:L'.map fU=L.map fU)(hs:fU s' = fU s):zP L' s' = zP L s:=by
 unfold zP
 congr 1
 funext n
 rw[eZ,eZ,h,hs]
theorem jQA {L L' : List Sch}(h:jU L=(-1,0))(hm:L'.map fU=L.map fU)(ho:∀s∈L', zY s=0):jU L' = (-1,0):=by
 have hlen:L'.length=L.length:=by have:=congrArg List.length hm;simpa using this
 have ok:=wD h;have at_:∀i (hi:i<L.length) (hi' : i<L'.length),fU L'[i]=fU L[i]:=fun i hi hi' =>by
  have:(L'.map fU)[i]?=(L.map fU)[i]?:=by rw[hm]
  rw[List.getElem?_map,List.getElem?_map,List.getElem?_eq_getElem hi,List.getElem?_eq_getElem hi']at this
  simpa using this
 have tw:∀i (hi:i<L.length),yH L i L[i]=false:=by
  have h16:=ok.len;have h2:=h;unfold jU at h2;rw[if_neg (by omega)]at h2;have hA:fst (xX L) L.length=none:=by
   cases e:fst (xX L) L.length with
   | none=>rfl
   | some i=>rw[e]at h2;simp only[Prod.mk.injEq]at h2;omega
  intro i hi;have:=fW hA i hi;unfold xX at this;rw[List.getElem?_eq_getElem hi]at this;simp only at this;rw[if_neg (by rw[ok.one _ (List.getElem_mem hi)];decide)]at this
  cases e:yH L i L[i] with
  | false=>rfl
  | true=>rw[e]at this;simp at this
 unfold jU;rw[if_neg (by have:=ok.len;omega),vB fun j hj=>?_]
 ·simp only
  rw[vB fun j hj=>?_];unfold uY;rw[List.getElem?_eq_getElem hj];simp only;rw[zXA hm (at_ j (by omega) hj),ok.mtl _ (List.getElem_mem (by omega)),if_pos rfl]
 ·unfold xX
  rw[List.getElem?_eq_getElem hj];simp only;rw[if_neg (by rw[ho _ (List.getElem_mem hj)];decide),tH,hm,at_ j (by omega) hj,← tH,tw j (by omega)]
  rfl
def kV:Tm := .mk 1 0 0 []
theorem zVA {s:Sch}(h:zY s=0):zY { s with cond:=kV }=0:=by
 unfold zY at h ⊢
 by_cases h1:s.num<0∨15<s.num∨s.least<0∨268435456<s.least
 ·rw[if_pos h1]at h;cases h
 rw[if_neg h1]at h
 by_cases h2:Wo.nameB s.nm.data.toList=false
 ·rw[if_pos h2]at h;cases h
 rw[if_neg h2]at h
 by_cases h3:gH s.cond≠0
 ·rw[if_pos h3]at h;exact absurd h h3
 rw[if_neg h3]at h
 by_cases h4:brB s.br=false∨s.ex<0∨65536≤s.ex∨zH s.ex s.num=true
 ·rw[if_pos h4]at h;cases h
 rw[if_neg h1,if_neg h2,if_neg (show ¬gH kV≠0 by decide),if_neg h4]
theorem jJA {L:List Sch}(h:jU L=(-1,0)){k:Nat}(hk:k<L.length):jU (L.set k { L[k] with cond:=kV })=(-1,0):=by
 refine jQA h ?_ fun s hs=>?_
 ·rw[List.map_set]
  apply List.ext_getElem
  ·simp
  ·intro i h1 h2
   rw[List.getElem_set]
   split
   ·rename_i e;subst e;rw[List.getElem_map];rfl
   ·rfl
 ·rcases List.mem_or_eq_of_mem_set hs with hs|rfl
  ·exact(wD h).one _ hs
  ·exact zVA ((wD h).one _ (List.getElem_mem hk))
end Sc
open Go.RowKit
def jF (w:World) (p:Option Addr) (D:List (Int × Int)):Prop :=
 D.length≤maxLen∧(D = []∨∃b off,p=some ⟨b,off,none⟩∧b<w.heap.size ∧
  ∀j,j<D.length→w.cell? ⟨b,off+j*2,none⟩=some (I O (D.getD j (0,0)).1)∧w.cell? ⟨b,off+j*2+1,none⟩=some (I O (D.getD j (0,0)).2))
theorem jF.nil (w:World)(p:Option Addr):jF w p []:=⟨by simp,.inl rfl⟩
theorem jF.below {w w' : World}{p:Option Addr}{D:List (Int × Int)}(h:jF w p D)(hb:Below w.heap.size w w'):jF w' p D:=by
 refine⟨h.1,?_⟩
 rcases h.2 with h|⟨b,off,hp,hl,hc⟩
 ·exact .inl h
 ·exact .inr ⟨b,off,hp,nll hl hb.size,fun j hj=>⟨(hb.cell (p:=⟨b,off+j*2,none⟩) hl).trans (hc j hj).1,(hb.cell (p:=⟨b,off+j*2+1,none⟩) hl).trans (hc j hj).2⟩⟩
theorem jF.get {w:World}{p:Option Addr}{D:List (Int × Int)}(h:jF w p D){k:Nat}(hk:k<D.length) :
  ∃b off x y,p=some ⟨b,off,none⟩∧b<w.heap.size∧w.cell? ⟨b,off+k*2,none⟩=some (I O x)∧w.cell? ⟨b,off+k*2+1,none⟩=some (I O y)∧Hid (D.getD k (0,0)=(x,y)):=by
 rcases h.2 with rfl|⟨b,off,hp,hl,hc⟩
 ·simp at hk
 ·exact⟨b,off,_,_,hp,hl,(hc k hk).1,(hc k hk).2,rfl⟩
theorem jF.len {w:World}{p:Option Addr}{D:List (Int × Int)}(h:jF w p D):D.length≤9223372036854775807:=by
 have:=h.1;unfold maxLen at this;omega
structure Two (w:World) (b:Nat) (x y:Int):Prop where
 lt:b<w.heap.size
 c0:w.cell? ⟨b,0,none⟩=some (I O x)
 c1:w.cell? ⟨b,1,none⟩=some (I O y)
 f0:w.frozen? ⟨b,0,none⟩=false
 f1:w.frozen? ⟨b,1,none⟩=false
/-! ### a slice of pairs that the call itself appends to_ -/
def zS (D:List (Int × Int)):List Value:=D.flatMap fun d => [I O d.1,I O d.2]
theorem pC (D E:List (Int × Int)):zS (D++E)=zS D++zS E:=by unfold zS;rw[List.flatMap_append]
theorem bZ (D:List (Int × Int))(j:Nat)(hj:j<D.length):(zS D)[j*2]?=some (I O (D.getD j (0,0)).1)∧(zS D)[j*2+1]?=some (I O (D.getD j (0,0)).2):=by
 induction D generalizing j with
 | nil=>simp at hj
 | cons d D ih =>
   show([Value.int .i64 d.1,I O d.2]++zS D)[j*2]?=_∧([Value.int .i64 d.1,I O d.2]++zS D)[j*2+1]?=_
   match j with
   | 0=>exact⟨rfl,rfl⟩
   | j+1 =>
     have h:=ih j (by simpa using hj);rw[List.getElem?_append_right (by simp;omega),List.getElem?_append_right (by simp;omega)];have e1:(j+1)*2 - [Value.int .i64 d.1,I O d.2].length=j*2:=by simp;omega
     have e2:(j+1)*2+1 - [Value.int .i64 d.1,I O d.2].length=j*2+1:=by simp;omega
     rw[e1,e2,h.1,h.2]
     simp
def yL (w:World) (T:TypeId) (B:Nat) (v:Value) (D:List (Int × Int)):Prop:=w.ownsRow B T 2 v D.length (zS D)
theorem yL.nil (w:World)(T:TypeId)(B:Nat):yL w T B (.slice none 0 0) []:=World.ownsRow_nil w B T 2
theorem yL.pairs {w:World}{T:TypeId}{B:Nat}{v:Value}{D:List (Int × Int)}(h:yL w T B v D):∃p cap,v = .slice p D.length cap∧jF w p D:=by
 rcases h.2 with⟨hv,hn⟩|⟨g,cap,cur,hv,hB,hg,hle,hm,hs,ht⟩
 ·obtain rfl:=List.length_eq_zero_iff.1 hn
  exact⟨none,0,hv,jF.nil _ _⟩
 ·have e:∀i v,i<D.length*2→(zS D)[i]?=some v→w.cell? ⟨g,i,none⟩=some v:=fun i v hi hv=>by
   have:=congrArg (fun l=>l[i]?) ht;simp only[List.getElem?_take,if_pos hi]at this;rw[hv]at this;simp only[World.cell?,hg]
   simpa using this
  refine⟨_,cap,hv,by omega,.inr ⟨g,0,rfl,(Array.getElem?_eq_some_iff.1 hg).1,fun j hj=>?_⟩⟩
  have hp:=bZ D j hj;rw[Nat.zero_add];exact⟨e _ _ (by omega) hp.1,e _ _ (by omega) hp.2⟩
theorem yL.append {P:Program}{T TS:TypeId}{i0:TypeInfo}(hi:P.info? T=some i0)(hz0:i0.zero=some (.agg #[I O 0,I O 0]))(hz1:i0.size=2)(hz2:i0.bytes=16)(ht:P.underlying TS=some (.slice T)){w:World}{ops:Array Oper}{rest:List Oper}{o:Oper}{a:Act}{Q:Exit→Act→World→Prop}(hgd:o.guard=none)(s x:Operand)
  (ho:o.op = .call { callee := .builtin .append,args:=#[s,x],argTypes:=#[TS,TS] }) (B:Nat) (v:Value) (D:List (Int × Int)) (y z:Int) (hown:yL w T B v D) (hs:a.eval s=v)
  (hx:a.eval x = .slice (some ⟨w.heap.size,0,none⟩) 1 1) (hB:B≤w.heap.size) (hn:D.length<1099511627776)
  (h:∀v' w', yL w' T B v' (D ++ [(y,z)])→Below B w w' → wpList P ops Q rest (a.put o.dst v') w'):wpList P ops Q (o::rest) a (w.alloc (.cells #[I O y,I O z] T)):=by
 refine wpList_append_own _ hgd s x TS ho B T i0 (.agg #[I O 0,I O 0]) 2 16 ht hi hz0 hz1 hz2 rfl (by decide) v D.length (zS D) hs (World.ownsRow.alloc hown _) ⟨w.heap.size,0,none⟩ 1 1 [I O y,I O z] hx rfl ?_ (by simp[Value.oneCell']) (by unfold maxLen;omega) (by omega) (by simp;omega) ?_
 ·intro j u hu
  match j,hu with
  | 0,hu=>simp at hu;subst hu;go_simp
  | 1,hu=>simp at hu;subst hu;go_simp
 intro v' w' h1 h2 _;refine h v' w' ?_ ?_
 ·unfold yL
  rw[lap,pC];exact h1
 ·refine(((brf B w).alloc hB _).grown h2 (by simp;omega) fun k hk=>?_)
  exact(World.ownsRow.lt hown k hk).1
open Sc As
/-! ### rows -/
structure RL where
 decl:Int
 sch:Int
 dp:Option Addr
 dn:Nat
 dc:Nat
 season:Int
 kind:Int
 area:Int
 border:Int
def jS (r:RL):List Value := [I O r.decl,I O r.sch,.slice r.dp r.dn r.dc,I O r.season,I O r.kind,I O r.area,I O r.border]
def SL:jJ RL:=⟨7,jS,fun _=>rfl,by decide,fun a u hu=>by
 simp only[jS,List.mem_cons,List.not_mem_nil,or_false]at hu
 rcases hu with rfl|rfl|rfl|rfl|rfl|rfl|rfl<;>rfl⟩
structure RF where
 farm:Int
 day:Int
 lp:Option Addr
 ln:Nat
 lc:Nat
def fCells (r:RF):List Value := [I O r.farm,I O r.day,.slice r.lp r.ln r.lc]
def SF:jJ RF:=⟨3,fCells,fun _=>rfl,by decide,fun a u hu=>by
 simp only[fCells,List.mem_cons,List.not_mem_nil,or_false]at hu
 rcases hu with rfl|rfl|rfl<;>rfl⟩
def tB (a:Awd):List Value := [I O a.farm,I O a.scheme,I O a.decl,I O a.det,I O a.paid,I O a.rated,I O a.timely,I O a.capped,I O a.due]
def SA:jJ Awd:=⟨9,tB,fun _=>rfl,by decide,fun a u hu=>by
 simp only[tB,List.mem_cons,List.not_mem_nil,or_false]at hu
 rcases hu with rfl|rfl|rfl|rfl|rfl|rfl|rfl|rfl|rfl<;>rfl⟩
def fF (a:Rsn):List Value := [I O a.line,I O a.scheme,I O a.kind]
def SRn:jJ Rsn:=⟨3,fF,fun _=>rfl,by decide,fun a u hu=>by
 simp only[fF,List.mem_cons,List.not_mem_nil,or_false]at hu
 rcases hu with rfl|rfl|rfl<;>rfl⟩
theorem xSA:(Tryz.prog.info? 89).map (fun i=>(i.zero,i.size,i.bytes))=some (some (.agg #[I O 0,I O 0,.slice none 0 0,I O 0,I O 0,I O 0,I O 0]),7,72):=by kernel_rfl
theorem yUA:fP SL Tryz.prog 89 45 72:=by
 obtain⟨i0,h1,h2,h3,h4⟩:=info_parts xSA;exact⟨⟨i0,_,h1,h2,h3,h4,rfl⟩,Tryz.underlying45⟩
theorem xBA:(Tryz.prog.info? 47).map (fun i=>(i.zero,i.size,i.bytes))=some (some (.agg #[I O 0,I O 0,.slice none 0 0]),3,40):=by kernel_rfl
theorem kU:fP SF Tryz.prog 47 30 40:=by
 obtain⟨i0,h1,h2,h3,h4⟩:=info_parts xBA;exact⟨⟨i0,_,h1,h2,h3,h4,rfl⟩,Tryz.underlying30⟩
theorem kDA:(Tryz.prog.info? 91).map (fun i=>(i.zero,i.size,i.bytes))=some (some (.agg #[I O 0,I O 0,I O 0,I O 0,I O 0,I O 0,I O 0,I O 0,I O 0]),9,72):=by kernel_rfl
theorem gN:fP SA Tryz.prog 91 48 72:=by
 obtain⟨i0,h1,h2,h3,h4⟩:=info_parts kDA;exact⟨⟨i0,_,h1,h2,h3,h4,rfl⟩,Tryz.underlying48⟩
theorem kSA:(Tryz.prog.info? 129).map (fun i=>(i.zero,i.size,i.bytes))=some (some (.agg #[I O 0,I O 0,I O 0]),3,24):=by kernel_rfl
theorem fK:fP SRn Tryz.prog 129 54 24:=by
 obtain⟨i0,h1,h2,h3,h4⟩:=info_parts kSA;exact⟨⟨i0,_,h1,h2,h3,h4,rfl⟩,Tryz.underlying54⟩
/-! ### lines -/
structure LV (Q:Nat→Prop) (w:World) (r:RL) (x:LineF):Prop where
 decl:r.decl=x.decl
 sch:r.sch=x.sch
 due:qR w r.dp x.due
 dn:r.dn=x.due.length
 dc:r.dn≤r.dc
 dz:r.dp=none→r.dc=0
 dq:∀a,r.dp=some a→x.due = []∨Q a.block
 season:r.season=x.season
 kind:r.kind=x.kind
 area:r.area=x.area
 border:r.border=x.border
theorem qR.blocks {w w' : World}{p:Option Addr}{l:List Int}(h:qR w p l)(hs:w.heap.size≤w'.heap.size)(hp:∀a,p=some a→l = []∨w'.heap[a.block]?=w.heap[a.block]?):qR w' p l:=by
 refine⟨h.1,?_⟩
 rcases h.2 with e|⟨b,off,e,hl,hc⟩
 ·exact .inl e
 rcases hp _ e with e0|hp
 ·exact .inl e0
 ·exact .inr ⟨b,off,e,nll hl hs,fun j hj=>(World.cell?_of_block (w:=w) (a:=⟨b,off+j,none⟩) hp).trans (hc j hj)⟩
theorem qR.lt {w:World}{p:Option Addr}{l:List Int}(h:qR w p l)(h0:l ≠ []){a:Addr}(e:p=some a):a.block<w.heap.size:=by
 rcases h.2 with e0|⟨b,off,e1,hl,_⟩
 ·exact absurd e0 h0
 ·rw[e]at e1;cases e1;exact hl
theorem LV.change {Q Q' : Nat→Prop}{w w' : World}{r:RL}{x:LineF}(h:LV Q w r x)(hs:w.heap.size≤w'.heap.size)(hb:∀b,Q b→b<w.heap.size→w'.heap[b]?=w.heap[b]?∧Q' b):LV Q' w' r x:=by
 have key:∀a,r.dp=some a→x.due = []∨(w'.heap[a.block]?=w.heap[a.block]?∧Q' a.block):=fun a e=>by
  rcases h.dq a e with h1|h1
  ·exact .inl h1
  ·by_cases h0:x.due = []
   ·exact .inl h0
   ·exact .inr (hb _ h1 (h.due.lt h0 e))
 exact⟨h.decl,h.sch,h.due.blocks hs fun a e=>(key a e).imp id And.left,h.dn,h.dc,h.dz,fun a e=>(key a e).imp id And.right,h.season,h.kind,h.area,h.border⟩
theorem LV.below {Q:Nat→Prop}{w w' : World}{r:RL}{x:LineF}(h:LV Q w r x)(hb:Below w.heap.size w w'):LV Q w' r x:=h.change hb.size fun b q hl=>⟨hb.block b hl,q⟩
structure wF (Q:Nat→Prop) (w:World) (p:Option Addr) (K:List LineF):Prop where
 ex:∃R:List RL,R.length=K.length∧qD SL w p R∧∀k (h:k<R.length) (h' : k<K.length),LV Q w R[k] K[k]
 q:∀a,p=some a→K = []∨Q a.block
theorem wF.nil (Q:Nat→Prop)(w:World)(p:Option Addr):wF Q w p []:=⟨⟨[],rfl,qD.nil _ _,fun k h=>by simp at h⟩,fun _ _ => .inl rfl⟩
theorem wF.change {Q Q' : Nat→Prop}{w w' : World}{p:Option Addr}{K:List LineF}(h:wF Q w p K)(hs:w.heap.size≤w'.heap.size)(hb:∀b,Q b→b<w.heap.size→w'.heap[b]?=w.heap[b]?∧Q' b):wF Q' w' p K:=by
 obtain⟨⟨R,h1,h2,h3⟩,h4⟩:=h;have hR:K = []↔R = []:=by rw[← List.length_eq_zero_iff,← List.length_eq_zero_iff,h1]
 have key:∀a,p=some a→K = []∨(w'.heap[a.block]?=w.heap[a.block]?∧Q' a.block):=fun a e=>by
  rcases h4 a e with h|h
  ·exact .inl h
  ·by_cases h0:K = []
   ·exact .inl h0
   ·exact .inr (hb _ h (h2.lt (fun e=>h0 (hR.2 e)) e))
 exact⟨⟨R,h1,h2.blocks hs fun a e=>(key a e).imp hR.1 And.left,fun k a b=>(h3 k a b).change hs hb⟩,fun a e=>(key a e).imp id And.right⟩
theorem wF.below {Q:Nat→Prop}{w w' : World}{p:Option Addr}{K:List LineF}(h:wF Q w p K)(hb:Below w.heap.size w w'):wF Q w' p K:=h.change hb.size fun b q hl=>⟨hb.block b hl,q⟩
theorem wF.len {Q:Nat→Prop}{w:World}{p:Option Addr}{K:List LineF}(h:wF Q w p K):K.length≤9223372036854775807:=by
 obtain⟨⟨R,h1,h2, -⟩, -⟩:=h;rw[← h1];exact h2.len
structure fZ (w:World) (b o:Nat) (r:RL):Prop where
 c0:w.cell? ⟨b,o,none⟩=some (I O r.decl)
 c1:w.cell? ⟨b,o+1,none⟩=some (I O r.sch)
 c2:w.cell? ⟨b,o+2,none⟩=some (.slice r.dp r.dn r.dc)
 c3:w.cell? ⟨b,o+3,none⟩=some (I O r.season)
 c4:w.cell? ⟨b,o+4,none⟩=some (I O r.kind)
 c5:w.cell? ⟨b,o+5,none⟩=some (I O r.area)
 c6:w.cell? ⟨b,o+6,none⟩=some (I O r.border)
theorem fZ.blk {w w' : World}{b o:Nat}{r:RL}(h:fZ w b o r)(e:w'.heap[b]?=w.heap[b]?):fZ w' b o r:=by
 have c:∀i,w'.cell? ⟨b,i,none⟩=w.cell? ⟨b,i,none⟩:=fun i=>World.cell?_of_block (w:=w) (a:=⟨b,i,none⟩) e
 exact⟨(c _).trans h.c0,(c _).trans h.c1,(c _).trans h.c2,(c _).trans h.c3,(c _).trans h.c4,(c _).trans h.c5,(c _).trans h.c6⟩
theorem fZ.below {w w' : World}{b o B:Nat}{r:RL}(h:fZ w b o r)(hb:Below B w w')(hB:b<B):fZ w' b o r:=h.blk (hb.block b hB)
theorem wF.at {Q:Nat→Prop}{w:World}{p:Option Addr}{K:List LineF}(h:wF Q w p K){k:Nat}(hk:k<K.length) :
  ∃b off r,p=some ⟨b,off,none⟩∧b<w.heap.size∧fZ w b (off+k*7) r∧LV Q w r K[k]:=by
 obtain⟨⟨R,h1,h2,h3⟩, -⟩:=h;have hk' : k<R.length:=by omega
 obtain⟨b,off,e,hl,hc⟩:=h2.at hk'; exact⟨b,off,R[k],e,hl,⟨hc 0 _ rfl,hc 1 _ rfl,hc 2 _ rfl,hc 3 _ rfl,hc 4 _ rfl,hc 5 _ rfl,hc 6 _ rfl⟩,h3 k hk' hk⟩
/-! ### farms -/
structure FV (Q:Nat→Prop) (w:World) (r:RF) (f:FarmF):Prop where
 farm:r.farm=f.farm
 day:r.day=f.day
 lines:wF Q w r.lp f.lines
 ln:r.ln=f.lines.length
 lc:r.ln≤r.lc
 lz:r.lp=none→r.lc=0
theorem FV.change {Q Q' : Nat→Prop}{w w' : World}{r:RF}{f:FarmF}(h:FV Q w r f)(hs:w.heap.size≤w'.heap.size)(hb:∀b,Q b→b<w.heap.size→w'.heap[b]?=w.heap[b]?∧Q' b):FV Q' w' r f :=
 ⟨h.farm,h.day,h.lines.change hs hb,h.ln,h.lc,h.lz⟩
theorem FV.below {Q:Nat→Prop}{w w' : World}{r:RF}{f:FarmF}(h:FV Q w r f)(hb:Below w.heap.size w w'):FV Q w' r f:=h.change hb.size fun b q hl=>⟨hb.block b hl,q⟩
structure yF (Q:Nat→Prop) (w:World) (p:Option Addr) (F:List FarmF):Prop where
 ex:∃R:List RF,R.length=F.length∧qD SF w p R∧∀k (h:k<R.length) (h' : k<F.length),FV Q w R[k] F[k]
 q:∀a,p=some a→F = []∨Q a.block
theorem yF.change {Q Q' : Nat→Prop}{w w' : World}{p:Option Addr}{F:List FarmF}(h:yF Q w p F)(hs:w.heap.size≤w'.heap.size)(hb:∀b,Q b→b<w.heap.size→w'.heap[b]?=w.heap[b]?∧Q' b):yF Q' w' p F:=by
 obtain⟨⟨R,h1,h2,h3⟩,h4⟩:=h;have hR:F = []↔R = []:=by rw[← List.length_eq_zero_iff,← List.length_eq_zero_iff,h1]
 have key:∀a,p=some a→F = []∨(w'.heap[a.block]?=w.heap[a.block]?∧Q' a.block):=fun a e=>by
  rcases h4 a e with h|h
  ·exact .inl h
  ·by_cases h0:F = []
   ·exact .inl h0
   ·exact .inr (hb _ h (h2.lt (fun e=>h0 (hR.2 e)) e))
 exact⟨⟨R,h1,h2.blocks hs fun a e=>(key a e).imp hR.1 And.left,fun k a b=>(h3 k a b).change hs hb⟩,fun a e=>(key a e).imp id And.right⟩
theorem yF.below {Q:Nat→Prop}{w w' : World}{p:Option Addr}{F:List FarmF}(h:yF Q w p F)(hb:Below w.heap.size w w'):yF Q w' p F:=h.change hb.size fun b q hl=>⟨hb.block b hl,q⟩
theorem yF.len {Q:Nat→Prop}{w:World}{p:Option Addr}{F:List FarmF}(h:yF Q w p F):F.length≤9223372036854775807:=by
 obtain⟨⟨R,h1,h2, -⟩, -⟩:=h;rw[← h1];exact h2.len
structure fJ (w:World) (b o:Nat) (r:RF):Prop where
 c0:w.cell? ⟨b,o,none⟩=some (I O r.farm)
 c1:w.cell? ⟨b,o+1,none⟩=some (I O r.day)
 c2:w.cell? ⟨b,o+2,none⟩=some (.slice r.lp r.ln r.lc)
theorem fJ.blk {w w' : World}{b o:Nat}{r:RF}(h:fJ w b o r)(e:w'.heap[b]?=w.heap[b]?):fJ w' b o r:=by
 have c:∀i,w'.cell? ⟨b,i,none⟩=w.cell? ⟨b,i,none⟩:=fun i=>World.cell?_of_block (w:=w) (a:=⟨b,i,none⟩) e
 exact⟨(c _).trans h.c0,(c _).trans h.c1,(c _).trans h.c2⟩
theorem fJ.below {w w' : World}{b o B:Nat}{r:RF}(h:fJ w b o r)(hb:Below B w w')(hB:b<B):fJ w' b o r:=h.blk (hb.block b hB)
theorem yF.at {Q:Nat→Prop}{w:World}{p:Option Addr}{F:List FarmF}(h:yF Q w p F){k:Nat}(hk:k<F.length) :
  ∃b off r,p=some ⟨b,off,none⟩∧b<w.heap.size∧fJ w b (off+k*3) r∧FV Q w r F[k]:=by
 obtain⟨⟨R,h1,h2,h3⟩, -⟩:=h;have hk' : k<R.length:=by omega
 obtain⟨b,off,e,hl,hc⟩:=h2.at hk'; exact⟨b,off,R[k],e,hl,⟨hc 0 _ rfl,hc 1 _ rfl,hc 2 _ rfl⟩,h3 k hk' hk⟩
theorem fs_one {B:Nat}{W:World}{r:RF}{f:FarmF}(fv:FV (fun b=>B≤b) W r f)(hB:B≤W.heap.size)(T:TypeId):yF (fun b=>B≤b) (W.alloc (.cells (fCells r).toArray T)) (some ⟨W.heap.size,0,none⟩) [f]:=by
 have hA:Below W.heap.size W (W.alloc (.cells (fCells r).toArray T)):=(brf _ _).alloc mle _;refine⟨⟨[r],rfl,qD.lit (S:=SF) W T [r] (by show 1≤_;unfold maxLen;omega),fun k a b=>?_⟩,fun a e => .inr (by cases e;exact hB)⟩
 match k,a with
 | 0,_=>exact fv.below hA
/-! ### the law of a year, as a value of ten cells -/
structure RY where
 sp:Option Addr
 sn:Nat
 sc:Nat
 tp:Option Addr
 tn:Nat
 tc:Nat
 due:Int
 last:Int
 mille:Int
 gp:Option Addr
 gn:Nat
 gc:Nat
 cap:Int
 env:Int
 unit:Int
 width:Int
def yCells (r:RY):List Value := [.slice r.sp r.sn r.sc,.slice r.tp r.tn r.tc,I O r.due,I O r.last,I O r.mille,.slice r.gp r.gn r.gc,I O r.cap,I O r.env,I O r.unit,I O r.width]
structure YV (Q:Nat→Prop) (w:World) (d:Nat) (r:RY) (l:YLaw):Prop where
 sch:xY Q w d r.sp l.sch
 sn:r.sn=l.sch.length
 sc:r.sn≤r.sc
 steps:jF w r.tp l.steps
 tn:r.tn=l.steps.length
 tq:∀a,r.tp=some a→l.steps = []∨Q a.block
 due:r.due=l.late.due
 last:r.last=l.late.last
 mille:r.mille=l.late.mille
 deg:jF w r.gp l.deg
 gn:r.gn=l.deg.length
 gq:∀a,r.gp=some a→l.deg = []∨Q a.block
 cap:r.cap=l.cap
 env:r.env=l.env
 unit:r.unit=l.unit
 width:r.width=l.width
 /-- what any program's reading of names and terms asks -/
 small:∀s∈l.sch,s.nm.size≤9223372036854775807
 terms:∀s∈l.sch,Te.count s.cond≤1099511627776
theorem jF.blocks {w w' : World}{p:Option Addr}{D:List (Int × Int)}(h:jF w p D)(hs:w.heap.size≤w'.heap.size)(hp:∀a,p=some a→D = []∨w'.heap[a.block]?=w.heap[a.block]?):jF w' p D:=by
 refine⟨h.1,?_⟩
 rcases h.2 with e|⟨b,off,e,hl,hc⟩
 ·exact .inl e
 rcases hp _ e with e0|hp
 ·exact .inl e0
 ·refine .inr ⟨b,off,e,nll hl hs,fun j hj=>?_⟩
  have c:∀i,w'.cell? ⟨b,i,none⟩=w.cell? ⟨b,i,none⟩:=fun i=>World.cell?_of_block (w:=w) (a:=⟨b,i,none⟩) hp
  simp only[c];exact hc j hj
theorem jF.lt {w:World}{p:Option Addr}{D:List (Int × Int)}(h:jF w p D)(h0:D ≠ []){a:Addr}(e:p=some a):a.block<w.heap.size:=by
 rcases h.2 with e0|⟨b,off,e1,hl,_⟩
 ·exact absurd e0 h0
 ·rw[e]at e1;cases e1;exact hl
theorem YV.change {Q Q' : Nat→Prop}{w w' : World}{d:Nat}{r:RY}{l:YLaw}(h:YV Q w d r l)(hs:w.heap.size≤w'.heap.size)(hb:∀b,Q b→b<w.heap.size→w'.heap[b]?=w.heap[b]?∧Q' b):YV Q' w' d r l:=by
 have key:∀{p:Option Addr} {D:List (Int × Int)},jF w p D→(∀a,p=some a→D = []∨Q a.block)→∀a,p=some a→D = []∨(w'.heap[a.block]?=w.heap[a.block]?∧Q' a.block):=fun hp hq a e=>by
  rcases hq a e with h1|h1
  ·exact .inl h1
  ·rename_i D
   by_cases h0:D = []
   ·exact .inl h0
   ·exact .inr (hb _ h1 (hp.lt h0 e))
 have k1:=key h.steps h.tq;have k2:=key h.deg h.gq;exact⟨h.sch.change hs hb,h.sn,h.sc,h.steps.blocks hs fun a e=>(k1 a e).imp id And.left,h.tn,fun a e=>(k1 a e).imp id And.right,h.due,h.last,h.mille,h.deg.blocks hs fun a e=>(k2 a e).imp id And.left,h.gn,fun a e=>(k2 a e).imp id And.right,h.cap,h.env,h.unit,h.width,h.small,h.terms⟩
theorem YV.below {Q:Nat→Prop}{w w' : World}{d:Nat}{r:RY}{l:YLaw}(h:YV Q w d r l)(hb:Below w.heap.size w w'):YV Q w' d r l:=h.change hb.size fun b q hl=>⟨hb.block b hl,q⟩
structure vV (w:World) (b o:Nat) (r:RY):Prop where
 c0:w.cell? ⟨b,o,none⟩=some (.slice r.sp r.sn r.sc)
 c1:w.cell? ⟨b,o+1,none⟩=some (.slice r.tp r.tn r.tc)
 c2:w.cell? ⟨b,o+2,none⟩=some (I O r.due)
 c3:w.cell? ⟨b,o+3,none⟩=some (I O r.last)
 c4:w.cell? ⟨b,o+4,none⟩=some (I O r.mille)
 c5:w.cell? ⟨b,o+5,none⟩=some (.slice r.gp r.gn r.gc)
 c6:w.cell? ⟨b,o+6,none⟩=some (I O r.cap)
 c7:w.cell? ⟨b,o+7,none⟩=some (I O r.env)
 c8:w.cell? ⟨b,o+8,none⟩=some (I O r.unit)
 c9:w.cell? ⟨b,o+9,none⟩=some (I O r.width)
theorem vV.blk {w w' : World}{b o:Nat}{r:RY}(h:vV w b o r)(e:w'.heap[b]?=w.heap[b]?):vV w' b o r:=by
 have c:∀i,w'.cell? ⟨b,i,none⟩=w.cell? ⟨b,i,none⟩:=fun i=>World.cell?_of_block (w:=w) (a:=⟨b,i,none⟩) e
 exact⟨(c _).trans h.c0,(c _).trans h.c1,(c _).trans h.c2,(c _).trans h.c3,(c _).trans h.c4,(c _).trans h.c5,(c _).trans h.c6,(c _).trans h.c7,(c _).trans h.c8,(c _).trans h.c9⟩
theorem vV.below {w w' : World}{b o B:Nat}{r:RY}(h:vV w b o r)(hb:Below B w w')(hB:b<B):vV w' b o r:=h.blk (hb.block b hB)
theorem vV.box (w:World)(r:RY)(T:TypeId):vV (w.alloc (.cells (yCells r).toArray T)) w.heap.size 0 r :=
 ⟨cwn _ _ _ 0,cwn _ _ _ 1,cwn _ _ _ 2,cwn _ _ _ 3,cwn _ _ _ 4,cwn _ _ _ 5,cwn _ _ _ 6,cwn _ _ _ 7,cwn _ _ _ 8,cwn _ _ _ 9⟩
/-! ### rows of awards and reasons that are only read -/
structure ACells (w:World) (b o:Nat) (a:Awd):Prop where
 c0:w.cell? ⟨b,o,none⟩=some (I O a.farm)
 c1:w.cell? ⟨b,o+1,none⟩=some (I O a.scheme)
 c2:w.cell? ⟨b,o+2,none⟩=some (I O a.decl)
 c3:w.cell? ⟨b,o+3,none⟩=some (I O a.det)
 c4:w.cell? ⟨b,o+4,none⟩=some (I O a.paid)
 c5:w.cell? ⟨b,o+5,none⟩=some (I O a.rated)
 c6:w.cell? ⟨b,o+6,none⟩=some (I O a.timely)
 c7:w.cell? ⟨b,o+7,none⟩=some (I O a.capped)
 c8:w.cell? ⟨b,o+8,none⟩=some (I O a.due)
theorem gE {w:World}{p:Option Addr}{L:List Awd}(h:qD SA w p L){k:Nat}(hk:k<L.length) :
  ∃b off,p=some ⟨b,off,none⟩∧b<w.heap.size∧ACells w b (off+k*9) L[k]:=by
 obtain⟨b,off,e,hl,hc⟩:=h.at hk;exact⟨b,off,e,hl,⟨hc 0 _ rfl,hc 1 _ rfl,hc 2 _ rfl,hc 3 _ rfl,hc 4 _ rfl,hc 5 _ rfl,hc 6 _ rfl,hc 7 _ rfl,hc 8 _ rfl⟩⟩
theorem vMA {w:World}{p:Option Addr}{L:List Rsn}(h:qD SRn w p L){k:Nat}(hk:k<L.length) :
  ∃b off,p=some ⟨b,off,none⟩∧b<w.heap.size∧w.cell? ⟨b,off+k*3,none⟩=some (I O L[k].line)∧w.cell? ⟨b,off+k*3+1,none⟩=some (I O L[k].scheme)∧w.cell? ⟨b,off+k*3+2,none⟩=some (I O L[k].kind):=by
 obtain⟨b,off,e,hl,hc⟩:=h.at hk;exact⟨b,off,e,hl,hc 0 _ rfl,hc 1 _ rfl,hc 2 _ rfl⟩
theorem bB (n:Int)(w:World):Calls Tryz.prog 51 #[I O n] w fun e w' => e = .returned (.bool (En.money n))∧w=w' :=by
 by_cases h:0≤n∧n≤68719476736
 ·rw[En.money_iff.2 h]
  obtain⟨h1,h2⟩:=h
  go_enter Tryz.func51,Tryz.ntmps51
  go_wp2
  go_ret
  exact⟨rfl,rfl⟩
 ·rw[show En.money n=false from by rw[← Bool.not_eq_true,En.money_iff];exact h]
  by_cases h1:0≤n
  ·have h2:¬n≤68719476736:=by omega
   clear h
   go_enter Tryz.func51,Tryz.ntmps51
   go_wp2
   go_ret
   exact⟨rfl,rfl⟩
  ·clear h
   go_enter Tryz.func51,Tryz.ntmps51
   go_wp2
   go_ret
   exact⟨rfl,rfl⟩
theorem As.bit_one (x n:Int):(bits BinOp.and IntKind.i64 (x / 2 ^ n.toNat) 1==1)=zH x n:=by
 rw[tT];unfold zH
 by_cases h:x / 2 ^ n.toNat % 2=1
 ·simp[h]
 ·simp[h]
theorem bS (r:RL)(s:RSx)(w:World)(h0:0≤s.num)(h15:s.num≤15) :
  Calls Tryz.prog 128 #[.agg (jS r).toArray,.agg (zN s).toArray] w fun e w' => e = .returned (.bool (zH r.sch s.num))∧Below w.heap.size w w' :=by
 obtain⟨d,sch,dp,dn,dc,season,k,a,b⟩:=r;obtain⟨num,nm,⟨o,tn,tm,tp,tl,tc⟩,bp,bn,bc,least,ex,needs⟩:=s;simp only[jS,zN]at h0 h15 ⊢;have HB:=mh (qK mle (qK mle (brf w.heap.size w) (.cells #[I O d,I O sch,.slice dp dn dc,I O season,I O k,I O a,I O b] 89)) (.cells #[I O num,.string nm,I O o,I O tn,I O tm,.slice tp tl tc,.slice bp bn bc,I O least,I O ex,.bool needs] 81))
 cases e:zH sch num
 ·have E:=As.bit_one sch num
  rw[e]at E;clear e
  go_enter Tryz.func128,Tryz.ntmps128
  go_wp2
  go_ret
  exact⟨rfl,HB.out⟩
 ·have E:=As.bit_one sch num
  rw[e]at E;clear e
  go_enter Tryz.func128,Tryz.ntmps128
  go_wp2
  go_ret
  exact⟨rfl,HB.out⟩
theorem kZ (r:RL)(s:RSx)(w:World)(h0:0≤s.num)(h15:s.num≤15) :
  Calls Tryz.prog 67 #[.agg (jS r).toArray,.agg (zN s).toArray] w fun e w' => e = .returned (.bool (zH r.sch s.num))∧Below w.heap.size w w' :=by
 obtain⟨d,sch,dp,dn,dc,season,k,a,b⟩:=r;obtain⟨num,nm,⟨o,tn,tm,tp,tl,tc⟩,bp,bn,bc,least,ex,needs⟩:=s;simp only[jS,zN]at h0 h15 ⊢;have HB:=mh (qK mle (qK mle (brf w.heap.size w) (.cells #[I O d,I O sch,.slice dp dn dc,I O season,I O k,I O a,I O b] 89)) (.cells #[I O num,.string nm,I O o,I O tn,I O tm,.slice tp tl tc,.slice bp bn bc,I O least,I O ex,.bool needs] 81))
 cases e:zH sch num
 ·have E:=As.bit_one sch num
  rw[e]at E;clear e
  go_enter Tryz.func67,Tryz.ntmps67
  go_wp2
  go_ret
  exact⟨rfl,HB.out⟩
 ·have E:=As.bit_one sch num
  rw[e]at E;clear e
  go_enter Tryz.func67,Tryz.ntmps67
  go_wp2
  go_ret
  exact⟨rfl,HB.out⟩
def dB (f:As.Fct):List Value := [I O f.decl,I O f.due,I O f.season,I O f.kind,I O f.area,I O f.border]
def As.FactG (f:As.Fct) (w:World) (e:Ending) (w' : World):Prop:=e = .returned (.agg (dB f).toArray)∧Below w.heap.size w w'
theorem mV {Q:Nat→Prop}(r:RL)(x:As.LineF)(k:Nat)(w:World)(hv:LV Q w r x)(hk:k<x.due.length) :
  Calls Tryz.prog 130 #[.agg (jS r).toArray,I O k] w (As.FactG (As.factOf x k) w):=by
 have h1:=hv.decl;have h3:=hv.season;have h4:=hv.kind;have h5:=hv.area;have h6:=hv.border;have hdn:=hv.dn;obtain⟨bd,off,ed,hbl,hc⟩:=hv.due.at hk;clear hv;obtain⟨d,sch,dp,dn,dc,season,kd,a,b⟩:=r;simp only at h1 h3 h4 h5 h6 hdn ed;subst h1 h3 h4 h5 h6 hdn ed;have EF:=mh (show As.factOf x k=⟨x.decl,x.due.getD k 0,x.season,x.kind,x.area,x.border⟩ from rfl);obtain⟨F,eF⟩:∃F,As.factOf x k=F:=⟨_,rfl⟩;rw[eF]at EF ⊢;obtain⟨u,eu⟩:∃u,x.due.getD k 0=u:=⟨_,rfl⟩;rw[eu]at hc EF;obtain⟨n,en⟩:∃n,x.due.length=n:=⟨_,rfl⟩;rw[en]at hk;rw[en];obtain⟨dl,sn,kn,ar,bo,e1,e2,e3,e4,e5⟩:∃dl sn kn ar bo,x.decl=dl∧x.season=sn∧x.kind=kn∧x.area=ar∧x.border=bo:=⟨_,_,_,_,_,rfl,rfl,rfl,rfl,rfl⟩;rw[e1,e2,e3,e4,e5]at EF ⊢;clear eF eu en e1 e2 e3 e4 e5;have hk0:(0:Int)≤(k:Int):=inn _;have hk1:(k:Int)<(n:Int):=by omega
 simp only[jS]
 go_enter Tryz.func130,Tryz.ntmps130
 go_wp2
 go_region
 go_wp2
 exact bodyPost_ret (v := .agg #[I O dl,I O u,I O sn,I O kn,I O ar,I O bo]) (by simp[results,Tryz.results130,go_sem]) rfl ⟨by rw[EF.out];rfl,(qK mle (qK mle (brf w.heap.size w) _) _).drew⟩
theorem kR {Q:Nat→Prop}(r:RL)(x:As.LineF)(k:Nat)(w:World)(hv:LV Q w r x)(hk:k<x.due.length) :
  Calls Tryz.prog 69 #[.agg (jS r).toArray,I O k] w (As.FactG (As.factOf x k) w):=by
 have h1:=hv.decl;have h3:=hv.season;have h4:=hv.kind;have h5:=hv.area;have h6:=hv.border;have hdn:=hv.dn;obtain⟨bd,off,ed,hbl,hc⟩:=hv.due.at hk;clear hv;obtain⟨d,sch,dp,dn,dc,season,kd,a,b⟩:=r;simp only at h1 h3 h4 h5 h6 hdn ed;subst h1 h3 h4 h5 h6 hdn ed;have EF:=mh (show As.factOf x k=⟨x.decl,x.due.getD k 0,x.season,x.kind,x.area,x.border⟩ from rfl);obtain⟨F,eF⟩:∃F,As.factOf x k=F:=⟨_,rfl⟩;rw[eF]at EF ⊢;obtain⟨u,eu⟩:∃u,x.due.getD k 0=u:=⟨_,rfl⟩;rw[eu]at hc EF;obtain⟨n,en⟩:∃n,x.due.length=n:=⟨_,rfl⟩;rw[en]at hk;rw[en];obtain⟨dl,sn,kn,ar,bo,e1,e2,e3,e4,e5⟩:∃dl sn kn ar bo,x.decl=dl∧x.season=sn∧x.kind=kn∧x.area=ar∧x.border=bo:=⟨_,_,_,_,_,rfl,rfl,rfl,rfl,rfl⟩;rw[e1,e2,e3,e4,e5]at EF ⊢;clear eF eu en e1 e2 e3 e4 e5;have hk0:(0:Int)≤(k:Int):=inn _;have hk1:(k:Int)<(n:Int):=by omega
 simp only[jS]
 go_enter Tryz.func69,Tryz.ntmps69
 go_wp2
 go_region
 go_wp2
 exact bodyPost_ret (v := .agg #[I O dl,I O u,I O sn,I O kn,I O ar,I O bo]) (by simp[results,Tryz.results69,go_sem]) rfl ⟨by rw[EF.out];rfl,(qK mle (qK mle (brf w.heap.size w) _) _).drew⟩
theorem As.allV_take {L:List Sch}{k:Nat}(hk:k<L.length):As.allV (L.take (k+1))=bits BinOp.or IntKind.i64 (As.allV (L.take k)) (wrap64 (2 ^ L[k].num.toNat)):=by
 unfold As.allV;rw[tsg hk,List.foldl_append]
 rfl
theorem qWA {Q:Nat→Prop}(d:Nat)(p:Option Addr)(L:List Sch)(cap:Nat)(w:World)(h:xY Q w d p L)(hn:∀s∈L,0≤s.num∧s.num≤15) :
  Calls Tryz.prog 92 #[.slice p L.length cap] w fun e w' => e = .returned (I O (As.allV L))∧w=w' :=by
 have H:=mh h;have HN:=mh hn;have hlen:=h.len;have EV:=mh (show As.allV L=As.allV (L.take L.length) from by rw[List.take_length]);obtain⟨V,eV⟩:∃V,As.allV L=V:=⟨_,rfl⟩;rw[eV]at EV ⊢;clear h hn eV
 go_enter Tryz.func92,Tryz.ntmps92
 go_wp2
 go_loop [3,4] (fun x i=>∃k:Nat,k≤L.length∧i=I O k∧x=I O (As.allV (L.take k))) (fun _ i=>L.length - (intOf i).toNat)
 case atStart=>exact⟨0,Nat.zero_le _,rfl,rfl⟩
 case round =>
  obtain⟨k,hk,rfl,rfl⟩:=hrel;have hk0:(0:Int)≤(k:Int):=inn _
  by_cases hlt:k<L.length
  ·have hk1:(k:Int)<(L.length:Int):=by omega
   obtain⟨b,off,x,rfl,hbl,hC,hv⟩:=H.at hlt;have C0:=hC.c0;have hnum:=hv.num;have hb:=HN.out _ (List.getElem_mem hlt);have ST:=mh (As.allV_take hlt);rw[← hnum]at hb ST;obtain⟨n,en⟩:∃n,x.num=n:=⟨_,rfl⟩;rw[en]at hb ST C0;obtain⟨n0,n1⟩:=hb;obtain⟨A,eA⟩:∃A,As.allV (L.take k)=A:=⟨_,rfl⟩;rw[eA]at ST ⊢;clear hC hv hnum en eA
   go_wp2
   go_round
   case rel=>exact⟨k+1,by omega,by go_num,by rw[ST.out]⟩
   case measure=>simp[intOf];omega
  ·obtain rfl:k=L.length:=by omega
   go_wp2
   go_ret
   exact⟨by rw[EV.out,List.take_length];rfl,rfl⟩
end Go.Proofs.YtefcalgjnkigjaaGreat
