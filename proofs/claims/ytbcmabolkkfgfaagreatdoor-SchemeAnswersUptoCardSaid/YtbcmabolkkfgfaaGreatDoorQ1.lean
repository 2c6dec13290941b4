/- Packed. -/
import Derived.Test.YtbcmabolkkfgfaaGreatDoorQ0
open Go.Value renaming int → I
open Go.IntKind renaming i64 → O
namespace Go.Proofs.YtbcmabolkkfgfaaGreatDoor
namespace Wo
open Go.Lib
/-! ### names -/
def letB (c:UInt8):Bool:=decide (97≤(c.toNat:Int))&&decide ((c.toNat:Int)≤122)
def digB (c:UInt8):Bool:=decide (48≤(c.toNat:Int))&&decide ((c.toNat:Int)≤57)
def headB:List UInt8→Bool
 | []=>true
 | c::r=>letB c&&r.all fun c=>letB c||digB c
def nameB (l:List UInt8):Bool:=headB l&&(decide (1≤l.length)&&decide (l.length≤12))
theorem headB_snoc (l:List UInt8)(c:UInt8):headB (l ++ [c])=(headB l&&(letB c||(!l.isEmpty&&digB c))):=by
 cases l with
 | nil=>simp[headB]
 | cons a l=>simp[headB,Bool.and_assoc]
theorem headB_prefix {l m:List UInt8}(h:headB (l++m)=true):headB l=true:=by
 cases l with
 | nil=>rfl
 | cons a l =>
   simp only[List.cons_append,headB,Bool.and_eq_true,List.all_append]at h ⊢;exact⟨h.1,h.2.1⟩
theorem take_snoc_bytes (s:ByteArray)(k:Nat)(h:k<s.size):s.data.toList.take (k+1)=s.data.toList.take k ++ [s[k]]:=by
 rw[tsg (by simpa using h)];rfl
/-! ### decimal texts -/
theorem dig_toNat (d:Nat)(h:d<10):(UInt8.ofNat (48+d)).toNat=48+d:=by
 have:(48+d) % 256=48+d:=Nat.mod_eq_of_lt (by omega)
 simpa using this
def dch (d:Nat):UInt8:=UInt8.ofNat (48+d)
theorem parseUint10_snoc (l:List UInt8)(c:UInt8):∀acc,parseUint10 acc (l ++ [c])=match parseUint10 acc l with
  | .ok u=>parseUint10 u [c]
  | e=>e:=by
 induction l with
 | nil=>intro acc;simp[parseUint10]
 | cons a l ih =>
   intro acc;simp only[List.cons_append,parseUint10]
   split
   ·split
    ·rfl
    ·split
     ·rfl
     ·exact ih _
   ·rfl
theorem decDigits_ne (u:Nat):decDigits u ≠ []:=by
 intro e;have:=decDigits_length u;rw[e]at this;have:=nDigits_pos u
 simp at *
 omega
theorem parse_dec (u:Nat)(h:u<18446744073709551616):parseUint10 0 (decDigits u) = .ok u:=by
 induction u using Nat.strongRecOn with
 | _ u ih =>
   by_cases h1:u<10
   ·rw[decDigits,dif_pos h1]
    simp only[parseUint10,dig_toNat u h1];rw[if_pos (by omega),if_neg (by omega),if_neg (by omega)]
    congr 1;omega
   ·rw[decDigits,dif_neg h1,parseUint10_snoc,ih (u / 10) (by omega) (by omega)]
    simp only[parseUint10,dig_toNat (u % 10) (by omega)];rw[if_pos (by omega),if_neg (by omega),if_neg (by omega)]
    congr 1;omega
theorem decDigits_first (u:Nat):∃c r,decDigits u=c::r∧48≤c.toNat∧c.toNat≤57:=by
 induction u using Nat.strongRecOn with
 | _ u ih =>
   by_cases h1:u<10
   ·rw[decDigits,dif_pos h1]
    exact⟨_,_,rfl,by rw[dig_toNat u h1];omega,by rw[dig_toNat u h1];omega⟩
   ·rw[decDigits,dif_neg h1]
    obtain⟨c,r,e,h2,h3⟩:=ih (u / 10) (by omega);exact⟨c,_,by rw[e];rfl,h2,h3⟩
theorem atoi_itoa (n:Int)(h0 : -9223372036854775808≤n)(h1:n≤9223372036854775807):atoiAll (itoa n) = .ok n:=by
 unfold itoa
 split
 ·rw[atoiAll_minus,parseMag,if_neg (decDigits_ne _),parse_dec _ (by omega)]
  simp only[signed];rw[if_neg (by omega)]
  congr 1;omega
 ·obtain⟨c,r,e,h2,h3⟩:=decDigits_first n.toNat
  have hp:=parse_dec n.toNat (by omega);rw[e]at hp ⊢;rw[atoiAll_plain c r (by omega) (by omega),parseMag,if_neg (by simp),hp];simp only[signless];rw[if_neg (by omega)]
  congr 1;omega
def numO (l:List UInt8):Option Int :=
 match atoiAll l with
 | .ok v=>if itoa v=l then some v else none
 | _=>none
theorem numO_itoa (n:Int)(h0 : -9223372036854775808≤n)(h1:n≤9223372036854775807):numO (itoa n)=some n:=by
 unfold numO;rw[atoi_itoa n h0 h1];simp
theorem numO_some {l:List UInt8}{v:Int}(h:numO l=some v):itoa v=l ∧ -9223372036854775808≤v∧v≤9223372036854775807:=by
 unfold numO at h
 split at h
 ·next w hw =>
  split at h
  ·cases h
   exact⟨by assumption,atoiAll_bounds hw⟩
  ·cases h
 ·cases h
def numV (l:List UInt8) (least most:Int):Int:=match numO l with|some v=>if v<least∨most<v then 0 else v|none=>0
def numB (l:List UInt8) (least most:Int):Bool:=match numO l with|some v=>if v<least∨most<v then false else true|none=>false
/-! ### the same by steps -/
def w64 (x:Int):Int:=(x+9223372036854775808) % 18446744073709551616 - 9223372036854775808
theorem w64_id {x:Int}(h : -9223372036854775808≤x∧x≤9223372036854775807):w64 x=x:=by unfold w64;omega
theorem w64_bd (x:Int) : -9223372036854775808≤w64 x∧w64 x≤9223372036854775807:=by unfold w64;omega
def stepN (neg:Bool) (n:Int) (c:UInt8):Int:=if neg then w64 (w64 (10*n) - ((c.toNat:Int) - 48)) else w64 (w64 (10*n)+((c.toNat:Int) - 48))
def foldN (neg:Bool) (l:List UInt8):Int:=l.foldl (stepN neg) 0
theorem foldN_snoc (neg:Bool)(l:List UInt8)(c:UInt8):foldN neg (l ++ [c])=stepN neg (foldN neg l) c:=by simp[foldN]
theorem foldN_bd (neg:Bool)(l:List UInt8) : -9223372036854775808≤foldN neg l∧foldN neg l≤9223372036854775807:=by
 rcases List.eq_nil_or_concat l with rfl|⟨m,c,rfl⟩
 ·simp[foldN]
 ·rw[List.concat_eq_append,foldN_snoc]
  unfold stepN
  split<;>exact w64_bd _
theorem foldN_dec (u:Nat):(u<9223372036854775808→foldN false (decDigits u)=u)∧(u≤9223372036854775808→foldN true (decDigits u) = -(u:Int)):=by
 induction u using Nat.strongRecOn with
 | _ u ih =>
   by_cases h1:u<10
   ·rw[decDigits,dif_pos h1]
    simp only[foldN,List.foldl_cons,List.foldl_nil,stepN,dig_toNat u h1]
    constructor
    ·intro h;simp only[Bool.false_eq_true,if_false];rw[w64_id (x:=10*0) (by omega),w64_id (by omega)];omega
    ·intro h;simp only[if_true];rw[w64_id (x:=10*0) (by omega),w64_id (by omega)];omega
   ·rw[decDigits,dif_neg h1,foldN_snoc,foldN_snoc]
    obtain⟨i1,i2⟩:=ih (u / 10) (by omega);simp only[stepN,dig_toNat (u % 10) (by omega)]
    constructor
    ·intro h;rw[i1 (by omega)];simp only[Bool.false_eq_true,if_false];rw[w64_id (x:=10*_) (by omega),w64_id (by omega)];omega
    ·intro h;rw[i2 (by omega)];simp only[if_true];rw[w64_id (x:=10*_) (by omega),w64_id (by omega)];omega
theorem decDigits_digs (u:Nat):(decDigits u).all digB=true:=by
 induction u using Nat.strongRecOn with
 | _ u ih =>
   by_cases h1:u<10
   ·rw[decDigits,dif_pos h1]
    simp only[List.all_cons,List.all_nil,Bool.and_true,digB,dig_toNat u h1,Bool.and_eq_true,decide_eq_true_eq];omega
   ·rw[decDigits,dif_neg h1,List.all_append,ih _ (by omega)]
    simp only[List.all_cons,List.all_nil,Bool.and_true,Bool.true_and,digB,dig_toNat (u % 10) (by omega),Bool.and_eq_true,decide_eq_true_eq];omega
def tailN (l:List UInt8):List UInt8:=match l with | [] => []|c::r=>if c.toNat=45 then r else c::r
def negN (l:List UInt8):Bool:=match l with | []=>false|c::_=>decide (c.toNat=45)
theorem itoa_tail (n:Int)(h0 : -9223372036854775808≤n)(h1:n≤9223372036854775807):(tailN (itoa n)).all digB=true∧foldN (negN (itoa n)) (tailN (itoa n))=n:=by
 unfold itoa
 split
 ·have e:(45:UInt8).toNat=45:=rfl
  simp only[tailN,negN,e,if_true,decide_true];exact⟨decDigits_digs _,by rw[(foldN_dec _).2 (by omega)];omega⟩
 ·obtain⟨c,r,e,h2,h3⟩:=decDigits_first n.toNat
  have hd:=decDigits_digs n.toNat;have hf:=(foldN_dec n.toNat).1 (by omega);rw[e]at hd hf ⊢;have hc:¬c.toNat=45:=by omega
  simp only[tailN,negN,if_neg hc,dqf hc];exact⟨hd,by rw[hf];omega⟩
theorem numO_bad {l:List UInt8}(h:(tailN l).all digB=false):numO l=none:=by
 cases hn:numO l with
 | none=>rfl
 | some v =>
   obtain⟨e,h0,h1⟩:=numO_some hn;have:=(itoa_tail v h0 h1).1;rw[e,h]at this
   cases this
theorem numO_fold (l:List UInt8):numO l=if itoa (foldN (negN l) (tailN l))=l then some (foldN (negN l) (tailN l)) else none:=by
 split
 ·next h =>
  have:=numO_itoa _ (foldN_bd (negN l) (tailN l)).1 (foldN_bd (negN l) (tailN l)).2;rw[h]at this;exact this
 ·next h =>
  cases hn:numO l with
  | none=>rfl
  | some v =>
    obtain⟨e,h0,h1⟩:=numO_some hn;have:=(itoa_tail v h0 h1).2;rw[e]at this;rw[this]at h;exact absurd e h
theorem nDigits_le19 (u:Nat)(h:u<10000000000000000000):nDigits u≤19:=by
 apply Nat.le_of_not_lt
 intro hk;have:∀(k u:Nat),k+1<nDigits u→10 ^ (k+1)≤u:=by
  intro k
  induction k with
  | zero =>
    intro u hu
    by_cases h1:u<10
    ·rw[nDigits_small h1]at hu;omega
    ·omega
  | succ k ih =>
    intro u hu
    by_cases h1:u<10
    ·rw[nDigits_small h1]at hu;omega
    ·rw[nDigits_big h1]at hu
     have:=ih (u / 10) (by omega);rw[Nat.pow_succ];omega
 have:=this 18 u hk;omega
theorem itoa_len20 (n:Int)(h0 : -9223372036854775808≤n)(h1:n≤9223372036854775807):1≤(itoa n).length∧(itoa n).length≤20:=by
 unfold itoa
 split
 ·rw[List.length_cons,decDigits_length]
  have:=nDigits_le19 n.natAbs (by omega);omega
 ·rw[decDigits_length]
  have:=nDigits_le19 n.toNat (by omega);have:=nDigits_pos n.toNat;omega
theorem numO_long {l:List UInt8}(h:l.length=0∨20<l.length):numO l=none:=by
 cases hn:numO l with
 | none=>rfl
 | some v =>
   obtain⟨e,h0,h1⟩:=numO_some hn;have:=itoa_len20 v h0 h1;rw[e]at this;omega
end Wo
namespace Cr
open Go.Lib
def letL:List UInt8 := [112,103,99,102,108]
def mkTo (m k:Nat):List UInt8:=(List.range k).flatMap fun i=>if m / 2 ^ i % 2=1 then [letL.getD i 0] else []
def mword (m:Nat):List UInt8:=if mkTo m 5 = [] then [45] else mkTo m 5
theorem mkTo_succ (m k:Nat):mkTo m (k+1)=mkTo m k++if m / 2 ^ k % 2=1 then [letL.getD k 0] else []:=by
 unfold mkTo;rw[List.range_succ,List.flatMap_append]
 simp
def markOf (c:UInt8):Nat:=if c=112 then 1 else if c=103 then 2 else if c=99 then 4 else if c=102 then 8 else if c=108 then 16 else 0
def unm (s:List UInt8):Option Nat:=(List.range 32).find? fun m=>mword m==s
theorem mword_inj:∀m,m<32→∀k,k<32→mword m=mword k→m=k:=by decide +kernel
theorem mword_word:∀m,m<32→(mword m).length≤5∧(mword m).length≠0∧∀c∈mword m,33≤c.toNat∧c.toNat≤126∧c≠35:=by decide +kernel
theorem markOf_lt (c:UInt8):markOf c<32:=by
 unfold markOf
 repeat' split
 all_goals decide
theorem unm_some {s:List UInt8}{m:Nat}(h:unm s=some m):m<32∧mword m=s:=by
 unfold unm at h;have h1:=List.mem_of_find?_eq_some h;have h2:=List.find?_some h;exact⟨List.mem_range.1 h1,by simpa using h2⟩
theorem unm_mword {m:Nat}(h:m<32):unm (mword m)=some m:=by
 cases e:unm (mword m) with
 | some k =>
   obtain⟨h1,h2⟩:=unm_some e;rw[mword_inj k h1 m h h2]
 | none =>
   unfold unm at e;have:=List.find?_eq_none.1 e m (List.mem_range.2 h)
   simp at this
end Cr
namespace Wo
open Go.Lib
/-! ### lines and words, byte by byte -/
def lnsA:List UInt8→List UInt8→List (List UInt8)
 | cur, []=>if cur = [] then [] else [cur]
 | cur,c::r=>if c=10 then cur::lnsA [] r else lnsA (cur ++ [c]) r
def lns (l:List UInt8):List (List UInt8):=lnsA [] l
def pcs (s:UInt8):List UInt8→List UInt8→List (List UInt8)
 | cur, [] => [cur]
 | cur,c::r=>if c=s then cur::pcs s [] r else pcs s (cur ++ [c]) r
def wds (l:List UInt8):List (List UInt8):=(pcs 32 [] (l.takeWhile (· != 35))).filter (· ≠ [])
def plainB (c:UInt8):Bool:=c==10||(decide (32≤(c.toNat:Int))&&decide ((c.toNat:Int)≤126))
def sErr (l:List UInt8):Int :=
 if 16384<l.length∨400<l.count 10 then 1 else if (l ≠ []∧l.getLast?≠some 10)∨l.all plainB=false then 4 else 0
def sList (l:List UInt8):List (List (List UInt8)):=if sErr l=0 then (lns l).map wds else []
/-! ### by the first end of a line -/
theorem lnsA_hit:∀(a r cur:List UInt8),(∀c∈a,c≠10)→lnsA cur (a++10::r)=(cur++a)::lns r
 | [],r,cur,_=>by simp[lnsA,lns]
 | c::a,r,cur,h=>by
   have hc:c≠10:=h c List.mem_cons_self;rw[List.cons_append,lnsA,if_neg hc,lnsA_hit a r _ (fun x hx=>h x (List.mem_cons_of_mem _ hx))]
   simp
theorem lns_hit {a r:List UInt8}(h:∀c∈a,c≠10):lns (a++10::r)=a::lns r:=by unfold lns;rw[lnsA_hit a r [] h];rfl
theorem pcs_none (s:UInt8):∀(l cur:List UInt8),(∀c∈l,c≠s)→pcs s cur l = [cur++l]
 | [],cur,_=>by simp[pcs]
 | c::r,cur,h=>by
   have hc:c≠s:=h c List.mem_cons_self;rw[pcs,if_neg hc,pcs_none s r _ (fun x hx=>h x (List.mem_cons_of_mem _ hx))]
   simp
theorem pcs_hit (s:UInt8):∀(a r cur:List UInt8),(∀c∈a,c≠s)→pcs s cur (a++s::r)=(cur++a)::pcs s [] r
 | [],r,cur,_=>by simp[pcs]
 | c::a,r,cur,h=>by
   have hc:c≠s:=h c List.mem_cons_self;rw[List.cons_append,pcs,if_neg hc,pcs_hit s a r _ (fun x hx=>h x (List.mem_cons_of_mem _ hx))]
   simp
theorem cut_at {l:List UInt8}{c:UInt8}{o:Nat}(h1:l[o]?=some c)(h2:∀k,k<o→l[k]?≠some c):l=l.take o++c::l.drop (o+1)∧∀x∈l.take o,x≠c:=by
 obtain⟨ho,he⟩:=List.getElem?_eq_some_iff.1 h1;refine⟨?_,fun x hx e=>?_⟩
 ·conv=>lhs;rw[← List.take_append_drop o l]
  rw[List.drop_eq_getElem_cons ho,he]
 ·obtain⟨k,hk,hkx⟩:=List.mem_iff_getElem.1 hx
  rw[List.length_take]at hk;exact h2 k (by omega) (by rw[List.getElem?_eq_getElem (by omega)];rw[List.getElem_take]at hkx;rw[hkx,e])
theorem none_of {l:List UInt8}{c:UInt8}(h:∀k:Nat,l[k]?≠some c):∀x∈l,x≠c:=fun x hx e=>by
 obtain⟨k,hk,hkx⟩:=List.mem_iff_getElem.1 hx;exact h k (by rw[List.getElem?_eq_getElem hk,hkx,e])
theorem lns_ix {l:List UInt8}{o:Nat}(h:indexByte l 10=(o:Int)):lns l=l.take o::lns (l.drop (o+1)):=by
 obtain⟨h1,h2⟩:=indexByte_some h;obtain⟨e,hn⟩:=cut_at h1 h2
 conv=>lhs;rw[e]
 exact lns_hit hn
theorem takeWhile_ix {l:List UInt8}{c:UInt8}{o:Nat}(h:indexByte l c=(o:Int)):l.takeWhile (· != c)=l.take o:=by
 obtain⟨h1,h2⟩:=indexByte_some h;obtain⟨e,hn⟩:=cut_at h1 h2
 conv=>lhs;rw[e]
 rw[List.takeWhile_append_of_pos (fun x hx=>by simpa using hn x hx)]
 simp
theorem takeWhile_none {l:List UInt8}{c:UInt8}(h:indexByte l c = -1):l.takeWhile (· != c)=l:=by
 have hn:=none_of (indexByte_none h);have:=List.takeWhile_append_of_pos (p:=(· != c)) (l₁:=l) (l₂ := []) (fun x hx=>by simpa using hn x hx)
 simpa using this
theorem pcs_ix {l:List UInt8}{c:UInt8}{o:Nat}(h:indexByte l c=(o:Int)):pcs c [] l=l.take o::pcs c [] (l.drop (o+1)):=by
 obtain⟨h1,h2⟩:=indexByte_some h;obtain⟨e,hn⟩:=cut_at h1 h2
 conv=>lhs;rw[e]
 rw[pcs_hit c _ _ _ hn];rfl
theorem pcs_no {l:List UInt8}{c:UInt8}(h:indexByte l c = -1):pcs c [] l = [l]:=by
 rw[pcs_none c _ _ (none_of (indexByte_none h))];rfl
/-! ### the library's own words -/
theorem index_one (c:UInt8):∀l:List UInt8,index l [c]=indexByte l c
 | []=>by simp[index,indexByte]
 | a::l=>by
   have ih:=index_one c l;have e:([c].isPrefixOf (a::l))=(a==c):=by
    simp only[List.isPrefixOf,Bool.and_true];exact BEq.comm
   rw[index,indexByte,ih,e]
theorem splitK_pcs (c:UInt8):∀(n:Nat) (l:List UInt8),l.length<n→splitK [c] 0 (count l [c]) l=pcs c [] l
 | 0,_,h=>by omega
 | n+1,l,h=>by
   rcases Int.lt_or_le (index l [c]) 0 with hx|hx
   ·have hi:index l [c] = -1:=by have:=index_ge l [c];omega
    rw[count_miss hi,pcs_no (by rw[← index_one];exact hi)]
    rfl
   ·obtain⟨o,ho⟩:∃o:Nat,index l [c]=(o:Int):=⟨(index l [c]).toNat,by omega⟩
    have hb:indexByte l c=(o:Int):=by rw[← index_one];exact ho
    have hlt:o<l.length:=(List.getElem?_eq_some_iff.1 (indexByte_some hb).1).1;rw[count_hit (by simp) ho,Nat.add_comm,splitK,if_neg (by rw[ho,beq_iff_eq];omega),ho,pcs_ix hb]
    show l.take (o+0)::splitK [c] 0 _ (l.drop (o+1))=_
    rw[show o + [c].length=o+1 from rfl,splitK_pcs c n _ (by rw[List.length_drop];omega)]
    simp
theorem split_pcs (c:UInt8)(s:ByteArray):(splitB ⟨#[c]⟩ 0 (countB s ⟨#[c]⟩) s).map (·.data.toList)=pcs c [] s.data.toList:=by
 rw[splitB_data];exact splitK_pcs c _ _ (Nat.lt_succ_self _)
theorem cut_one (l:List UInt8)(c:UInt8):(cut l [c]).1=l.takeWhile (· != c):=by
 unfold cut;rw[index_one]
 split
 ·next h =>
  obtain⟨o,ho⟩:∃o:Nat,indexByte l c=(o:Int):=⟨(indexByte l c).toNat,by omega⟩;rw[takeWhile_ix ho,ho];rfl
 ·next h =>
  have:=index_ge l [c];rw[index_one]at this;rw[takeWhile_none (by omega)]
theorem lnsA_len:∀(l cur:List UInt8),(lnsA cur l).length≤l.length+(if cur = [] then 0 else 1)
 | [],cur=>by
   rw[lnsA]
   split<;>simp
 | c::r,cur=>by
   rw[lnsA]
   split
   ·have:=lnsA_len r []
    simp only[if_true]at this;simp only[List.length_cons]
    split<;>omega
   ·have:=lnsA_len r (cur ++ [c])
    simp only[List.append_eq_nil_iff,List.cons_ne_self,and_false,if_false]at this;simp only[List.length_cons]
    split<;>omega
theorem lns_len (l:List UInt8):(lns l).length≤l.length:=by
 have:=lnsA_len l []
 simpa [lns] using this
theorem pcs_len:∀(s:UInt8) (l cur:List UInt8),(pcs s cur l).length≤l.length+1
 | s, [],cur=>by simp[pcs]
 | s,c::r,cur=>by
   rw[pcs]
   split
   ·have:=pcs_len s r []
    simp only[List.length_cons];omega
   ·have:=pcs_len s r (cur ++ [c])
    simp only[List.length_cons];omega
theorem ix_of_last {l:List UInt8}(h:l.getLast?=some 10):∃o:Nat,indexByte l 10=(o:Int)∧o<l.length:=by
 rcases Int.lt_or_le (indexByte l 10) 0 with hx|hx
 ·exfalso
  have hi:indexByte l 10 = -1:=by have:=index_ge l [10];rw[index_one]at this;omega
  obtain⟨t,rfl⟩:=List.getLast?_eq_some_iff.1 h;exact none_of (indexByte_none hi) 10 (by simp) rfl
 ·refine⟨(indexByte l 10).toNat,by omega,?_⟩
  have:=(indexByte_some (o:=(indexByte l 10).toNat) (show indexByte l 10=_ by omega)).1;exact(List.getElem?_eq_some_iff.1 this).1
theorem last_drop {l:List UInt8}(h:l.getLast?=some 10)(k:Nat):l.drop k = []∨(l.drop k).getLast?=some 10:=by
 by_cases hk:k<l.length
 ·right
  rw[List.getLast?_drop,if_neg (by omega)];exact h
 ·exact .inl (List.drop_of_length_le (by omega))
/-! ### lines that are written -/
def wordB (w:List UInt8):Bool := !w.isEmpty&&w.all fun c=>decide (33≤(c.toNat:Int))&&decide ((c.toNat:Int)≤126) && !(c==35)
def lineT (ws:List (List UInt8)):List UInt8:=join ws [32] ++ [10]
def jText (LL:List (List (List UInt8))):List UInt8:=LL.flatMap lineT
def jErr (LL:List (List (List UInt8))):Int:=if 400<LL.length then 1 else if (LL.all fun ws=>ws.all wordB)=false then 4 else if 16384<(jText LL).length then 1 else 0
def jOut (LL:List (List (List UInt8))):List UInt8:=if jErr LL=0 then jText LL else []
theorem jText_snoc (LL:List (List (List UInt8)))(ws:List (List UInt8)):jText (LL ++ [ws])=jText LL++(join ws [32] ++ [10]):=by simp[jText,lineT]
end Wo
namespace Te
open Go.Lib
inductive Tm where
 | mk (op num more:Int) (kids:List Tm)
def Tm.op:Tm→Int | .mk o _ _ _=>o
def Tm.num:Tm→Int | .mk _ n _ _=>n
def Tm.more:Tm→Int | .mk _ _ m _=>m
def Tm.kids:Tm→List Tm | .mk _ _ _ K=>K
mutual
def count:Tm→Nat
 | .mk _ _ _ K=>1+countL K
def countL:List Tm→Nat
 | []=>0
 | k::r=>count k+countL r
end
mutual
def depth:Tm→Nat
 | .mk _ _ _ K=>depthL K+1
def depthL:List Tm→Nat
 | []=>0
 | k::r=>max (depth k) (depthL r)
end
def single (n:Int):Bool:=n==1||n==2||n==4||n==8||n==16
def selfB (o n m:Int) (k:Nat):Bool :=
 if o=1 then n==0&&m==0&&k==0
 else if o=2 then decide (0≤n)&&decide (n≤39)&&m==0&&k==0
 else if o=3 then decide (0≤n)&&decide (n≤40)&&m==0&&k==0
 else if o=4 then single n&&m==0&&k==0
 else if o=5 then decide (0≤n)&&decide (n≤15)&&m==0&&k==0
 else if o=6 then decide (2≤n)&&decide (n≤10)&&m==0&&k==0
 else if o=7 then decide (1≤n)&&decide (n≤10)&&single m&&k==0
 else if o=8 then decide (1≤n)&&decide (n≤10)&&m==0&&k==0
 else if o=9∨o=10 then n==0&&m==0&&decide (1≤k)
 else if o=11 then n==0&&m==0&&k==1
 else false
mutual
def form:Tm→Bool
 | .mk o n m K=>selfB o n m K.length&&formL K
def formL:List Tm→Bool
 | []=>true
 | k::r=>form k&&formL r
end
def rightB:Nat→Tm→Bool
 | 0,_=>false
 | d+1,.mk o n m K=>selfB o n m K.length&&decide (K.length≤40)&&K.all (rightB d)
def chkT (t:Tm):Int:=if 40<count t then 1 else if 8<depth t∨form t=false then 16 else 0
theorem countL_len (K:List Tm):K.length≤countL K:=by
 induction K with
 | nil=>simp[countL]
 | cons k r ih =>
   rw[List.length_cons,countL];have:1≤count k:=by cases k;rw[count];omega
   omega
theorem count_pos (t:Tm):1≤count t:=by cases t;rw[count];omega
theorem countL_mem {K:List Tm}{k:Tm}(h:k∈K):count k≤countL K:=by
 induction K with
 | nil=>cases h
 | cons a r ih =>
   rw[countL]
   rcases List.mem_cons.1 h with rfl|h
   ·omega
   ·have:=ih h;omega
theorem depthL_le {K:List Tm}{d:Nat}:depthL K≤d↔∀k∈K,depth k≤d:=by
 induction K with
 | nil=>simp[depthL]
 | cons a r ih=>rw[depthL,Nat.max_le,ih];simp
theorem formL_iff {K:List Tm}:formL K=true↔∀k∈K,form k=true:=by
 induction K with
 | nil=>simp[formL]
 | cons a r ih=>rw[formL,Bool.and_eq_true,ih];simp
theorem rightB_eq:∀(d:Nat) (t:Tm),count t≤40→rightB d t=(decide (depth t≤d)&&form t)
 | 0,.mk o n m K,_=>by
   rw[rightB,depth]
   simp
 | d+1,.mk o n m K,h=>by
   rw[rightB,depth,form];rw[count]at h;have hl:=countL_len K;have e:decide (K.length≤40)=true:=dqt (by omega);rw[e,Bool.and_true];have hK:∀k∈K,rightB d k=(decide (depth k≤d)&&form k):=fun k hk=>rightB_eq d k (by have:=countL_mem hk;omega)
   have e2:K.all (rightB d)=(decide (depthL K≤d)&&formL K):=by
    rw[Bool.eq_iff_iff,List.all_eq_true,Bool.and_eq_true,decide_eq_true_eq,depthL_le,formL_iff]
    constructor
    ·intro h2
     refine⟨fun k hk=>?_,fun k hk=>?_⟩
     ·have:=h2 k hk;rw[hK k hk,Bool.and_eq_true,decide_eq_true_eq]at this;exact this.1
     ·have:=h2 k hk;rw[hK k hk,Bool.and_eq_true]at this;exact this.2
    ·rintro ⟨h2,h3⟩ k hk
     rw[hK k hk,Bool.and_eq_true,decide_eq_true_eq];exact⟨h2 k hk,h3 k hk⟩
   rw[e2];have e3:decide (depthL K+1≤d+1)=decide (depthL K≤d):=by rw[decide_eq_decide];omega
   rw[e3]
   cases selfB o n m K.length<;>cases decide (depthL K≤d)<;>simp
theorem chkT_right (t:Tm):chkT t=if 40<count t then 1 else if rightB 8 t=false then 16 else 0:=by
 unfold chkT
 by_cases h:40<count t
 ·rw[if_pos h,if_pos h]
 ·rw[if_neg h,if_neg h,rightB_eq 8 t (by omega)]
  by_cases h8:8<depth t
  ·rw[if_pos (.inl h8),if_pos]
   have:decide (depth t≤8)=false:=dqf (by omega);rw[this];rfl
  ·have:decide (depth t≤8)=true:=dqt (by omega)
   rw[this,Bool.true_and]
   by_cases hf:form t=false
   ·rw[if_pos (.inr hf),if_pos hf]
   ·rw[if_neg (by rintro (h|h);exact h8 h;exact hf h),if_neg hf]
/-! ### words -/
def opW (o:Int):List UInt8 :=
 if o=1 then [116,114,117,101]
 else if o=2 then [99,114,111,112]
 else if o=3 then [102,97,109,105,108,121]
 else if o=4 then [109,97,114,107]
 else if o=5 then [122,111,110,101]
 else if o=6 then [115,97,109,101]
 else if o=7 then [98,101,102,111,114,101]
 else if o=8 then [107,110,111,119,110]
 else if o=9 then [97,110,100]
 else if o=10 then [111,114]
 else if o=11 then [110,111,116]
 else []
def opOf (w:List UInt8):Int :=
 if w=opW 1 then 1 else if w=opW 2 then 2 else if w=opW 3 then 3 else if w=opW 4 then 4 else if w=opW 5 then 5 else if w=opW 6 then 6
 else if w=opW 7 then 7 else if w=opW 8 then 8 else if w=opW 9 then 9 else if w=opW 10 then 10 else if w=opW 11 then 11 else 0
mutual
def textW:Tm→List (List UInt8)
 | .mk o n m K=>opW o ::
   (if o=1 then []
   else if o=4 then [Cr.mword n.toNat]
   else if o=7 then [itoa n,Cr.mword m.toNat]
   else if o=11 then textL K
   else if o=9∨o=10 then [40]::(textL K ++ [[41]])
   else [itoa n])
def textL:List Tm→List (List UInt8)
 | [] => []
 | k::r=>textW k++textL r
end
def letter (s:List UInt8):Option Int :=
 match s with
 | [c]=>if Cr.markOf c=0 then none else some (Cr.markOf c:Int)
 | _=>none
def numM (s:List UInt8):Option Int :=
 match Wo.numO s with
 | some v=>if v < -1125899906842624∨1125899906842624<v then none else some v
 | none=>none
def stepT (rt:List (List UInt8)→Option (Tm × List (List UInt8))) (rl:List (List UInt8)→Option (List Tm × List (List UInt8))):List (List UInt8)→Option (Tm × List (List UInt8))
 | []=>none
 | x::r =>
   if opOf x=0 then none
   else if opOf x=1 then some (.mk 1 0 0 [],r)
   else if opOf x=11 then
    match rt r with
    | some (k,r1)=>some (.mk 11 0 0 [k],r1)
    | none=>none
   else if opOf x=9∨opOf x=10 then
    match r with
    | []=>none
    | y::r1 =>
      if y = [40] then
       match rl r1 with
       | some (K,r2)=>some (.mk (opOf x) 0 0 K,r2)
       | none=>none
      else none
   else if opOf x=4 then
    match r with
    | []=>none
    | y::r1 =>
      match letter y with
      | some m=>some (.mk 4 m 0 [],r1)
      | none=>none
   else
    match r with
    | []=>none
    | y::r1 =>
      match numM y with
      | none=>none
      | some v =>
        if opOf x=7 then
         match r1 with
         | []=>none
         | z::r2 =>
           match letter z with
           | some m=>some (.mk 7 v m [],r2)
           | none=>none
        else some (.mk (opOf x) v 0 [],r1)
def stepL (rt:List (List UInt8)→Option (Tm × List (List UInt8))) (rl:List (List UInt8)→Option (List Tm × List (List UInt8))):List (List UInt8)→Option (List Tm × List (List UInt8))
 | []=>none
 | y::r =>
   if y = [41] then some ([],r)
   else
    match rt (y::r) with
    | none=>none
    | some (k,r1) =>
      match rl r1 with
      | none=>none
      | some (K,r2)=>some (k::K,r2)
mutual
def readT:Nat→List (List UInt8)→Option (Tm × List (List UInt8))
 | 0,_=>none
 | f+1,w=>stepT (readT f) (readL f) w
def readL:Nat→List (List UInt8)→Option (List Tm × List (List UInt8))
 | 0,_=>none
 | f+1,w=>stepL (readT f) (readL f) w
end
theorem opOf_bd (w:List UInt8):0≤opOf w∧opOf w≤11:=by
 unfold opOf
 repeat' split
 all_goals omega
theorem read_len:∀f:Nat,(∀w t r,readT f w=some (t,r)→r.length<w.length)∧(∀w K r,readL f w=some (K,r)→r.length<w.length)
 | 0=>⟨fun w t r h=>by rw[readT]at h;(try cases h),fun w K r h=>by rw[readL]at h;(try cases h)⟩
 | f+1=>by
   obtain⟨i1,i2⟩:=read_len f;refine⟨fun w t r h=>?_,fun w K r h=>?_⟩
   ·cases w with
    | nil=>rw[readT,stepT]at h;cases h
    | cons x w =>
      rw[readT,stepT.eq_def]at h
      dsimp only at h
      split at h
      ·cases h
      split at h
      ·cases h;simp
      split at h
      ·split at h
       ·next e=>cases h;have:=i1 _ _ _ e;rw[List.length_cons];omega
       ·cases h
      split at h
      ·cases w with
       | nil=>cases h
       | cons y w =>
         simp only at h
         split at h
         ·split at h
          ·next e=>cases h;have:=i2 _ _ _ e;simp only[List.length_cons];omega
          ·cases h
         ·cases h
      split at h
      ·cases w with
       | nil=>cases h
       | cons y w =>
         simp only at h
         split at h
         ·cases h;simp only[List.length_cons];omega
         ·cases h
      ·cases w with
       | nil=>cases h
       | cons y w =>
         simp only at h
         split at h
         ·cases h
         split at h
         ·cases w with
          | nil=>cases h
          | cons z w =>
            simp only at h
            split at h
            ·cases h;simp only[List.length_cons];omega
            ·cases h
         ·cases h;simp only[List.length_cons];omega
   ·cases w with
    | nil=>rw[readL,stepL]at h;cases h
    | cons y w =>
      rw[readL,stepL]at h
      split at h
      ·cases h;simp
      ·split at h
       ·cases h
       ·next e =>
        split at h
        ·cases h
        ·next e2=>cases h;have:=i1 _ _ _ e;have:=i2 _ _ _ e2;simp only[List.length_cons]at *;omega
/-! ### what was written is read -/
theorem letter_mword {m:Int}(h:single m=true):letter (Cr.mword m.toNat)=some m:=by
 simp only[single,Bool.or_eq_true,beq_iff_eq]at h
 rcases h with (((rfl|rfl)|rfl)|rfl)|rfl<;>decide +kernel
theorem opOf_opW:∀o:Int,1≤o→o≤11→opOf (opW o)=o:=by
 intro o h1 h2;have:o=1∨o=2∨o=3∨o=4∨o=5∨o=6∨o=7∨o=8∨o=9∨o=10∨o=11:=by omega
 rcases this with rfl|rfl|rfl|rfl|rfl|rfl|rfl|rfl|rfl|rfl|rfl<;>decide +kernel
theorem form_op {o n m:Int}{K:List Tm}(h:form (.mk o n m K)=true):1≤o∧o≤11:=by
 rw[form,Bool.and_eq_true]at h;have h:=h.1;unfold selfB at h
 repeat' split at h
 all_goals first|omega|cases h
end Te
namespace Sc
open Go.Lib Te
structure Brk where
 up:Int
 rate:Int
structure Sch where
 num:Int
 nm:ByteArray
 cond:Tm
 br:List Brk
 least:Int
 ex:Int
 needs:Bool
def bitB (x n:Int):Bool:=decide (x / 2 ^ n.toNat % 2=1)
def upB (l:List Brk) (k:Nat):Int:=if k=0 then 0 else match l[k - 1]? with|some b=>b.up|none=>0
def brAt (l:List Brk) (k:Nat):Bool:=match l[k]? with|some b=>decide (upB l k<b.up)&&(decide (b.up≤268435456)&&(decide (0≤b.rate)&&decide (b.rate≤1048576)))|none=>true
def brAll (l:List Brk) (n:Nat):Bool:=(List.range n).all (brAt l)
def brB (l:List Brk):Bool:=brAll l l.length&&(decide (1≤l.length)&&decide (l.length≤6))
theorem brAll_succ (l:List Brk)(n:Nat):brAll l (n+1)=(brAll l n&&brAt l n):=by unfold brAll;rw[List.range_succ,List.all_append];simp
theorem brAll_mono {l:List Brk}{m n:Nat}(h:m≤n)(h2:brAll l n=true):brAll l m=true:=by
 unfold brAll at *;rw[List.all_eq_true]at *;intro i hi;exact h2 i (List.mem_range.2 (nll (List.mem_range.1 hi) h))
theorem brAt_some {l:List Brk}{k:Nat}(h:k<l.length):brAt l k=(decide (upB l k<l[k].up)&&(decide (l[k].up≤268435456)&&(decide (0≤l[k].rate)&&decide (l[k].rate≤1048576)))):=by
 unfold brAt;rw[List.getElem?_eq_getElem h]
theorem upB_succ {l:List Brk}{k:Nat}(h:k<l.length):upB l (k+1)=l[k].up:=by
 unfold upB;rw[if_neg (by omega),Nat.add_sub_cancel,List.getElem?_eq_getElem h]
theorem upB_nonneg {l:List Brk}{k:Nat}(hk:k≤l.length)(h:brAll l k=true):0≤upB l k:=by
 induction k with
 | zero=>unfold upB;simp
 | succ k ih =>
   rw[brAll_succ,Bool.and_eq_true]at h;have h1:=ih (by omega) h.1;rw[upB_succ (by omega)];have:=h.2;rw[brAt_some (by omega),Bool.and_eq_true,decide_eq_true_eq]at this;omega
def one17 (s:Sch):Int :=
 if s.num<0∨15<s.num∨s.least<0∨268435456<s.least then 2
 else if Wo.nameB s.nm.data.toList=false then 5
 else if chkT s.cond≠0 then chkT s.cond
 else if brB s.br=false∨s.ex<0∨65536≤s.ex∨bitB s.ex s.num=true then 3
 else 0
def fst (f:Nat→Int) (n:Nat):Option Nat:=(List.range n).find? fun i=>f i != 0
theorem fst_none {f:Nat→Int}{n:Nat}(h:∀j,j<n→f j=0):fst f n=none:=by
 unfold fst;rw[List.find?_eq_none];intro i hi;rw[h i (List.mem_range.1 hi)]
 decide
theorem fst_some {f:Nat→Int}{n k:Nat}(hk:k<n)(h:∀j,j<k→f j=0)(h2:f k≠0):fst f n=some k:=by
 unfold fst;rw[List.find?_eq_some_iff_append];refine⟨by simpa using h2,List.range k,(List.range (n - k - 1)).map (k+1+·),?_,fun i hi=>?_⟩
 ·have:n=k+(n - k - 1+1):=by omega
  rw[this,List.range_add,List.range_succ_eq_map]
  simp
  intro a _;omega
 ·rw[h i (List.mem_range.1 hi)];decide
def twice (L:List Sch) (i:Nat) (s:Sch):Bool:=(match i with|0=>false|k+1=>match L[k]? with|some p=>decide (s.num≤p.num)|none=>false)||(L.take i).any fun x=>x.nm.data.toList==s.nm.data.toList
def errA (L:List Sch) (i:Nat):Int:=match L[i]? with|some s=>if one17 s≠0 then one17 s else if twice L i s=true then 6 else 0|none=>0
def find17 (L:List Sch) (n:Int):Int:=match (L.findIdx? fun s=>s.num==n) with|some i=>(i:Int)|none => -1
def mutN (L:List Sch) (s:Sch) (n:Nat):Bool:=if bitB s.ex n=false then true else match L.find? fun x=>x.num==(n:Int) with|some x=>bitB x.ex s.num|none=>false
def mutual17 (L:List Sch) (s:Sch):Bool:=(List.range 16).all (mutN L s)
def errB (L:List Sch) (i:Nat):Int:=match L[i]? with|some s=>if mutual17 L s=true then 0 else 17|none=>0
def chk17 (L:List Sch):Int × Int :=
 if 16<L.length then (0,1)
 else match fst (errA L) L.length with
  | some i=>((i:Int),errA L i)
  | none=>match fst (errB L) L.length with
    | some i=>((i:Int),17)
    | none=>(-1,0)
def amt (l:List Brk) (sq:Int) (k:Nat):Int:=match k with|0=>0|k+1=>amt l sq k+match l[k]? with|some b=>max 0 (min sq b.up - upB l k)*b.rate|none=>0
def amtE (s:Sch) (sq:Int):Int:=if one17 s≠0 then 17 else if sq<0∨268435456<sq then 2 else 0
def amtV (s:Sch) (sq:Int):Int:=if amtE s sq≠0 then 0 else amt s.br sq s.br.length / 100
def confB (set:Int) (a b:Sch):Bool:=bitB set a.num&&(bitB set b.num&&bitB a.ex b.num)
def conf1 (set:Int):List Sch→Option (Int × Int)
 | []=>none
 | a::r=>match r.find? (confB set a) with|some b=>some (a.num,b.num)|none=>conf1 set r
def conf17 (L:List Sch) (set:Int):Option (Int × Int):=if (chk17 L).2=0 then conf1 set L else none
/-! ### lines -/
def wScheme:List UInt8 := [115,99,104,101,109,101]
def wEnt:List UInt8 := [101,110,116,105,116,108,101,100]
def wIf:List UInt8 := [105,102]
def wRate:List UInt8 := [114,97,116,101]
def wNot:List UInt8 := [110,111,116]
def headW (s:Sch):List (List UInt8) := [wScheme,itoa s.num,s.nm.data.toList,itoa s.least]++if s.needs then [wEnt] else []
def rateW (b:Brk):List (List UInt8) := [wRate,itoa b.up,itoa b.rate]
def notsTo (x:Int) (n:Nat):List (List (List UInt8)):=(List.range n).flatMap fun (i:Nat)=>if bitB x (i:Int) then [[wNot,itoa (i:Int)]] else []
def linesS (s:Sch):List (List (List UInt8)):=headW s::(wIf::textW s.cond)::(s.br.map rateW++notsTo s.ex 16)
def linesL (L:List Sch):List (List (List UInt8)):=L.flatMap linesS
theorem notsTo_succ (x:Int)(n:Nat):notsTo x (n+1)=notsTo x n++if bitB x (n:Int) then [[wNot,itoa (n:Int)]] else []:=by
 unfold notsTo;rw[List.range_succ,List.flatMap_append];simp
/-! ### reading -/
structure PS where
 out:List Sch
 state:Nat
 last:Int
def ps0:PS:=⟨[],0, -1⟩
def num0 (w:List UInt8) (most:Int):Option Int:=match Wo.numO w with|some v=>if v<0∨most<v then none else some v|none=>none
def headR (w:List (List UInt8)):Option Sch :=
 match w with
 | a::nm::b::r =>
   if r = []∨r = [wEnt] then
    if Wo.nameB nm=true then
     match num0 a 15,num0 b 268435456 with
     | some n,some m=>some ⟨n,⟨nm.toArray⟩,.mk 0 0 0 [], [],m,0,decide (r = [wEnt])⟩
     | _,_=>none
    else none
   else none
 | _=>none
def condR (w:List (List UInt8)):Tm ⊕ Int :=
 match readT (2*w.length) w with
 | none => .inr 4
 | some (t,r)=>if chkT t≠0 then .inr (chkT t) else if r = [] then .inl t else .inr 4
def rateR (w:List (List UInt8)):Option Brk :=
 match w with
 | [a,b]=>match num0 a 268435456,num0 b 268435456 with|some u,some v=>some ⟨u,v⟩|_,_=>none
 | _=>none
def onLast (L:List Sch) (f:Sch→Sch):List Sch:=match L.reverse with | [] => []|s::r=>(f s::r).reverse
def stepP (st:PS) (w:List (List UInt8)):PS ⊕ Int :=
 match w with
 | [] => .inl st
 | h::r =>
   if h=wScheme∧(st.state=0∨3≤st.state) then
    match headR r with
    | some s => .inl ⟨st.out ++ [s],1, -1⟩
    | none => .inr 4
   else if h=wIf∧st.state=1 then
    match condR r with
    | .inl t => .inl ⟨onLast st.out fun s=>{ s with cond:=t },2,st.last⟩
    | .inr e => .inr e
   else if h=wRate∧(st.state=2∨st.state=3) then
    match rateR r with
    | some b => .inl ⟨onLast st.out fun s=>{ s with br:=s.br ++ [b] },3,st.last⟩
    | none => .inr 4
   else if h=wNot∧3≤st.state then
    match r with
    | [a]=>match num0 a 15 with
      | some x=>if x≤st.last then .inr 4 else .inl ⟨onLast st.out fun s=>{ s with ex:=s.ex+2 ^ x.toNat },4,x⟩
      | none => .inr 4
    | _ => .inr 4
   else .inr 4
def prs:PS→Nat→List (List (List UInt8))→List Sch × Int × Int
 | st,k, []=>if st.state=1∨st.state=2 then ([],(k:Int)+1,4) else if (chk17 st.out).2≠0 then ([],0,(chk17 st.out).2) else (st.out,0,0)
 | st,k,w::r=>if w = [] then prs st (k+1) r else match stepP st w with | .inl s2=>prs s2 (k+1) r | .inr e=>([],(k:Int)+1,e)
def parse17 (s:List UInt8):List Sch × Int × Int:=if Wo.sErr s=0 then prs ps0 0 (Wo.sList s) else ([],0,Wo.sErr s)
end Sc
open Go.RowKit
theorem wp_tail {P:Program}{id:Nat}{Q:Exit→Act→World→Prop}{a:Act}{w:World}{l:List Oper}(n:Nat)(hm:P.follows .mixedOrders=true)(hB:Region.lexTailB .any l.toArray n=true)
  (h:wpStill P l.toArray w.drew (fun a' => wpList P l.toArray Q (l.drop n) a' w.drew) (l.take n) a):(Code.region id l.toArray true).wp P Q a w:=wp_region_still_tail n hm hB h
theorem Calls.turn {P:Program}{f:FuncId}{args:Array Value}{w:World}{v:Value}(h:Calls P f args w fun e w' => e = .returned v∧w=w'):Calls P f args w fun e w' => e = .returned v∧w' = w :=
 h.mono fun _ _ h=>⟨h.1,h.2.symm⟩
theorem ret_int {k:IntKind}{a b:Int}(h:a=b):Ending.returned (.int k a) = .returned (.int k b):=by rw[h]
theorem ret_bool {a b:Bool}(h:a=b):Ending.returned (.bool a) = .returned (.bool b):=by rw[h]
theorem drewN_below (w:World)(n:Nat):Below w.heap.size w (w.drewN n):=⟨rfl,rfl,rfl,Nat.le_refl _,fun _ _=>rfl⟩
theorem bnext {B:Nat}{w W w' : World}(h:Below B w W)(hB:B≤W.heap.size)(k:Below W.heap.size W w'):Below B w w' := h.trans (k.mono hB)
theorem bdrew {w w1:World}(h:Below w.drew.heap.size w.drew w1):Below w.heap.size w w1:=⟨h.os,h.tape,h.output,h.size,h.block⟩
theorem cell_other {w:World}{a b:Addr}{v u:Value}(h:w.cell? b=some u)(hne:a.block≠b.block):(w.setCell a v).cell? b=some u :=
 (World.cell?_setCell_other _ _ _ _ (fun e=>hne (congrArg Addr.block e))).trans h
def Ints (w:World) (p:Option Addr) (zs:List Int):Prop :=
 zs.length≤maxLen∧(zs = []∨∃b off,p=some ⟨b,off,none⟩∧b<w.heap.size∧∀j,j<zs.length→w.cell? ⟨b,off+j,none⟩=some (I O (zs.getD j 0)))
theorem Ints.below {w w' : World}{p:Option Addr}{zs:List Int}(h:Ints w p zs)(hb:Below w.heap.size w w'):Ints w' p zs:=by
 refine⟨h.1,?_⟩
 rcases h.2 with h|⟨b,off,hp,hl,hc⟩
 ·exact .inl h
 ·exact .inr ⟨b,off,hp,nll hl hb.size,fun j hj=>(hb.cell (p:=⟨b,off+j,none⟩) hl).trans (hc j hj)⟩
theorem Ints.at {w:World}{p:Option Addr}{zs:List Int}(h:Ints w p zs){k:Nat}(hk:k<zs.length):∃b off,p=some ⟨b,off,none⟩∧b<w.heap.size∧w.cell? ⟨b,off+k,none⟩=some (I O (zs.getD k 0)):=by
 rcases h.2 with rfl|⟨b,off,hp,hl,hc⟩
 ·simp at hk
 ·exact⟨b,off,hp,hl,hc k hk⟩
theorem Ints.get {w:World}{p:Option Addr}{zs:List Int}(h:Ints w p zs){k:Nat}(hk:k<zs.length):∃b off x,p=some ⟨b,off,none⟩∧b<w.heap.size∧w.cell? ⟨b,off+k,none⟩=some (I O x)∧Hid (zs.getD k 0=x):=by
 obtain⟨b,off,h1,h2,h3⟩:=h.at hk;exact⟨b,off,_,h1,h2,h3,rfl⟩
def IsRow (k:IntKind) (w:World) (a:Option Addr) (len cap:Nat) (zs:List Int):Prop :=
 (a=none∧len=0∧cap=0∧zs = []) ∨
 ∃x,a=some x∧len≤cap∧cap≤maxLen∧zs.length=cap∧(∀i,i<zs.length→w.cell? (x.add i)=some (.int k (zs.getD i 0)))∧∀n∈zs,(Lit.int k n).wf=true
theorem IsRow.len {k:IntKind}{w:World}{a:Option Addr}{len cap:Nat}{zs:List Int}(h:IsRow k w a len cap zs):len≤zs.length∧zs.length≤maxLen:=by
 rcases h with⟨_,rfl,_,rfl⟩|⟨x,_,h1,h2,h3,_,_⟩
 ·simp
 ·omega
theorem IsRow.wf {k:IntKind}{w:World}{a:Option Addr}{len cap:Nat}{zs:List Int}(h:IsRow k w a len cap zs):∀n∈zs,(Lit.int k n).wf=true:=by
 rcases h with⟨_,_,_,rfl⟩|⟨x,_,_,_,_,_,h6⟩
 ·simp
 ·exact h6
theorem IsRow.get {k:IntKind}{w:World}{a:Option Addr}{len cap:Nat}{zs:List Int}(h:IsRow k w a len cap zs){i:Nat}(hi:i<len) :
  ∃b off x,a=some ⟨b,off,none⟩∧b<w.heap.size∧w.cell? ⟨b,off+i,none⟩=some (.int k x)∧Hid (zs.getD i 0=x):=by
 have hl:=h.len
 rcases h with⟨_,rfl,_,_⟩|⟨x,rfl,h1,h2,h3,h4,_⟩
 ·omega
 ·have h0:=h4 0 (by omega)
  obtain⟨b,off,spot⟩:=x;have hspot:spot=none:=by simpa [Addr.add] using World.cell?_spot h0
  subst hspot;refine⟨b,off,_,rfl,?_,?_,rfl⟩
  ·have:=World.block_lt_of_cell? w _ h0
   simpa [Addr.add] using this
  ·rw[← Go.WideShapes.add_plain]
   exact h4 i (by omega)
theorem IsRow.ints {w:World}{a:Option Addr}{len cap:Nat}{zs:List Int}(h:IsRow .i64 w a len cap zs):Ints w a (zs.take len)∧(zs.take len).length=len:=by
 have hl:=h.len;have he:(zs.take len).length=len:=by rw[List.length_take];omega
 refine⟨⟨by omega,?_⟩,he⟩
 by_cases h0:len=0
 ·subst h0;exact .inl rfl
 ·obtain⟨b,off,x,rfl,hb,hc,_⟩:=h.get (i:=0) (by omega)
  refine .inr ⟨b,off,rfl,hb,fun j hj=>?_⟩
  obtain⟨b', off', y,e,_,hc', hy⟩:=h.get (i:=j) (by omega);simp only[Option.some.injEq,Addr.mk.injEq]at e;obtain⟨rfl,rfl,_⟩:=e;rw[hc', ← hy.out]
  simp[List.getD_eq_getElem?_getD,he▸hj]
/-! ### a slice of ints that the call itself appends to_ -/
end Go.Proofs.YtbcmabolkkfgfaaGreatDoor
