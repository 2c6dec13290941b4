/- Packed. -/
import Derived.Test.YtefcalgjnkigjaaGreatL6
set_option maxHeartbeats 2000000
open Go.Value renaming int → I
open Go.IntKind renaming i64 → O
namespace Go.Proofs.YtefcalgjnkigjaaGreat.Sh
/-! ### sums -/
theorem qSA {l m:List Int}(h:l.Perm m):sum l=sum m:=by
 induction h with
 | nil=>rfl
 | cons x _ ih=>simp only[sum,ih]
 | swap x y l=>simp only[sum];omega
 | trans _ _ ih1 ih2=>exact ih1.trans ih2
theorem bE {α:Type}(f g:α→Int)(l:List α):sum (l.map fun x=>f x+g x)=sum (l.map f)+sum (l.map g):=by
 induction l with
 | nil=>simp[sum]
 | cons x l ih=>simp only[List.map_cons,sum,ih];omega
theorem sum_map_mul {α:Type}(c:Int)(f:α→Int)(l:List α):sum (l.map fun x=>c*f x)=c*sum (l.map f):=by
 induction l with
 | nil=>simp[sum]
 | cons x l ih=>simp only[List.map_cons,sum,ih,Int.mul_add]
theorem yG {α:Type}(c:Int)(l:List α):sum (l.map fun _=>c)=c*l.length:=by
 induction l with
 | nil=>simp[sum]
 | cons x l ih=>simp only[List.map_cons,sum,ih,List.length_cons];rw[Int.natCast_add,Int.mul_add];omega
theorem sum_map_le {α:Type}{f g:α→Int}{l:List α}(h:∀x∈l,f x≤g x):sum (l.map f)≤sum (l.map g):=by
 induction l with
 | nil=>simp[sum]
 | cons x l ih =>
   have:=ih fun y hy=>h y (List.mem_cons_of_mem _ hy)
   have:=h x List.mem_cons_self;simp only[List.map_cons,sum];omega
theorem vQ {α:Type}{f g:α→Int}{l:List α}(h:∀x∈l,f x=g x):sum (l.map f)=sum (l.map g):=by
 rw[List.map_congr_left h]
theorem sum_nonneg {l:List Int}(h:∀x∈l,0≤x):0≤sum l:=by
 induction l with
 | nil=>simp[sum]
 | cons x l ih =>
   have:=ih fun y hy=>h y (List.mem_cons_of_mem _ hy)
   have:=h x List.mem_cons_self;simp only[sum];omega
theorem le_sum {l:List Int}(h:∀x∈l,0≤x){y:Int}(hy:y∈l):y≤sum l:=by
 induction l with
 | nil=>cases hy
 | cons x l ih =>
   have h1:∀z∈l,0≤z:=fun z hz=>h z (List.mem_cons_of_mem _ hz)
   have h2:=sum_nonneg h1;have h3:=h x List.mem_cons_self;simp only[sum]
   rcases List.mem_cons.1 hy with rfl|hy
   ·omega
   ·have:=ih h1 hy;omega
theorem sum_le_len {l:List Int}{c:Int}(h:∀x∈l,x≤c):sum l≤c*l.length:=by
 have:=sum_map_le (f:=fun x=>x) (g:=fun _=>c) h;rw[yG]at this
 simpa using this
theorem vYA (l:List Int):sum ((List.range l.length).map fun i=>l.getD i 0)=sum l:=by
 congr 1
 apply List.ext_getElem
 ·simp
 ·intro i h1 h2
  simp at h1 h2 ⊢
  simp[h1]
/-! ### the order -/
def before (r:Nat→Int) (i j:Nat):Bool:=decide (r j<r i)||(decide (r i=r j)&&decide (i<j))
theorem zB {r:Nat→Int}{i j:Nat}:before r i j=true↔r j<r i∨r i=r j∧i<j:=by unfold before;simp
theorem xB {r:Nat→Int}{i j:Nat}:before r i j=false↔¬(r j<r i∨r i=r j∧i<j):=by rw[← zB];simp
def cf (n:Nat) (r:Nat→Int) (x y:Fin n):Int:=if r x.val<r y.val then 1 else if r y.val<r x.val then -1 else if x.val<y.val then -1 else if y.val<x.val then 1 else 0
theorem mR (n:Nat)(r:Nat→Int)(x y:Fin n):ltOf (cf n r) x y=before r x.val y.val:=by
 rw[Bool.eq_iff_iff,zB];unfold ltOf cf;rw[decide_eq_true_eq]
 split<;>(try split)<;>(try split)<;>(try split)<;>omega
theorem swo (n:Nat)(r:Nat→Int):Go.Sort.SWO (ltOf (cf n r)) where
 irrefl x:=by rw[mR,xB];omega
 trans x y z h1 h2:=by rw[mR,zB]at *;omega
 ntrans x y z h1 h2:=by rw[mR,xB]at *;omega
theorem tot (n:Nat)(r:Nat→Int)(x y:Fin n)(h1:ltOf (cf n r) x y=false)(h2:ltOf (cf n r) y x=false):x=y:=by
 rw[mR,xB]at *
 apply Fin.ext
 omega
def order (n:Nat) (r:Nat→Int):List Nat:=((List.finRange n).mergeSort fun x y => !(ltOf (cf n r) y x)).map Fin.val
theorem vR (n:Nat)(r:Nat→Int):(order n r).Perm (List.range n):=by
 unfold order;refine((List.mergeSort_perm _ _).map _).trans ?_;rw[show(List.finRange n).map Fin.val=List.range n from by apply List.ext_getElem<;>simp]
theorem uR (n:Nat)(r:Nat→Int):(order n r).Nodup:=(vR n r).nodup_iff.2 List.nodup_range
theorem order_len (n:Nat)(r:Nat→Int):(order n r).length=n:=by rw[(vR n r).length_eq,List.length_range]
theorem order_mem (n:Nat)(r:Nat→Int)(i:Nat):i∈order n r↔i<n:=by rw[(vR n r).mem_iff,List.mem_range]
theorem rH (n:Nat)(r:Nat→Int):(order n r).Pairwise fun i j=>before r j i=false:=by
 unfold order;rw[List.pairwise_map];refine(List.pairwise_mergeSort (le:=fun x y => !(ltOf (cf n r) y x)) ?_ ?_ (List.finRange n)).imp ?_
 ·intro a b c h1 h2
  simp only[Bool.not_eq_true', mR,xB]at *;omega
 ·intro a b
  simp only[Bool.or_eq_true,Bool.not_eq_true', mR,xB];omega
 ·intro a b h
  simpa only [Bool.not_eq_true', mR] using h
theorem sL {l:List Nat}(h:l.Nodup){a b:Nat}(ha:a<l.length)(hb:b<l.length)(e:l[a]=l[b]):a=b:=by
 have p:=List.pairwise_iff_getElem.1 h
 rcases Nat.lt_trichotomy a b with hl|hl|hl
 ·exact absurd e (p a b ha hb hl)
 ·exact hl
 ·exact absurd e.symm (p b a hb ha hl)
theorem cX {n:Nat}{r:Nat→Int}{a b:Nat}(hab:a<b)(hb:b<(order n r).length):before r ((order n r)[a]'(by omega)) ((order n r)[b])=true:=by
 have h:=List.pairwise_iff_getElem.1 (rH n r) a b (by omega) hb hab;have hne:(order n r)[a]'(by omega)≠(order n r)[b]:=fun e=>by
  have:=sL (uR n r) _ _ e;omega
 rw[xB]at h;rw[zB];omega
def top (n:Nat) (r:Nat→Int) (k i:Nat):Bool:=decide (i∈(order n r).take k)
theorem top_zero (n:Nat)(r:Nat→Int)(i:Nat):top n r 0 i=false:=by simp[top]
theorem top_succ {n:Nat}{r:Nat→Int}{k i:Nat}(hk:k<(order n r).length):top n r (k+1) i=(top n r k i||decide (i=(order n r)[k])):=by
 unfold top;rw[Bool.eq_iff_iff];simp only[Bool.or_eq_true,decide_eq_true_eq];rw[tsg hk,List.mem_append,List.mem_singleton]
theorem top_at {n:Nat}{r:Nat→Int}{k:Nat}(hk:k<(order n r).length):top n r k (order n r)[k]=false:=by
 unfold top;rw[decide_eq_false_iff_not,List.mem_take_iff_getElem];rintro ⟨j,hj,e⟩;have:=sL (uR n r) _ _ e;omega
theorem uZA {n:Nat}{r:Nat→Int}{k i:Nat}(hk:k<(order n r).length)(hi:i<n)(ht:top n r k i=false)(hne:i≠(order n r)[k]):before r (order n r)[k] i=true:=by
 obtain⟨j,hj,rfl⟩:=List.getElem_of_mem ((order_mem n r i).2 hi);have h1:¬j<k:=fun h=>by
  unfold top at ht;rw[decide_eq_false_iff_not,List.mem_take_iff_getElem]at ht;exact ht ⟨j,by omega,rfl⟩
 have h2:j≠k:=fun e=>hne (by subst e;rfl)
 exact cX (by omega) hj
theorem hVA {n:Nat}{r:Nat→Int}{k:Nat}(hk:k≤n):sum ((List.range n).map fun i=>if top n r k i=true then 1 else 0)=k:=by
 rw[← qSA ((vR n r).map _)];have hn:=uR n r;have e:order n r=(order n r).take k++(order n r).drop k:=(List.take_append_drop k _).symm;have d:=List.nodup_append.1 (e▸hn);rw[show(order n r).map (fun i=>if top n r k i=true then (1:Int) else 0)=((order n r).take k++(order n r).drop k).map (fun i=>if top n r k i=true then (1:Int) else 0) from by rw[← e],List.map_append,sum_append];rw[vQ (g:=fun _=>1) (l:=(order n r).take k),vQ (g:=fun _=>0) (l:=(order n r).drop k),yG,yG]
 ·rw[List.length_take,order_len];omega
 ·intro x hx
  rw[if_neg];unfold top;rw[decide_eq_true_eq];exact fun h=>d.2.2 x h x hx rfl
 ·intro x hx
  rw[if_pos];unfold top;exact dqt hx
theorem uXA {n:Nat}{r:Nat→Int}{k:Nat}{s:Int}(_hk:k≤n)(h0:∀i,i<n→0≤r i)(h1:∀i,i<n→r i<s)(hs:sum ((List.range n).map r)=s*k)(hpos:0<s){i:Nat}(hi:i<n)(hr:r i=0):top n r k i=false:=by
 apply Bool.eq_false_iff.2
 intro ht;unfold top at ht;rw[decide_eq_true_eq,List.mem_take_iff_getElem]at ht;obtain⟨p,hp,rfl⟩:=ht;have hpk:p<k:=by omega
 have hpl:p<(order n r).length:=by omega
 have e:order n r=(order n r).take (p)++(order n r).drop p:=(List.take_append_drop p _).symm;rw[← qSA ((vR n r).map r),e,List.map_append,sum_append]at hs;have a1:sum (((order n r).take p).map r)≤s*p:=by
  have:=sum_map_le (f:=r) (g:=fun _=>s) (l:=(order n r).take p) (fun x hx=>Int.le_of_lt (h1 x ((order_mem n r x).1 (List.mem_of_mem_take hx))));rw[yG,List.length_take,Nat.min_eq_left (by omega)]at this;exact this
 have a2:sum (((order n r).drop p).map r)≤0*((order n r).drop p).length:=by
  rw[← yG];refine sum_map_le fun x hx=>?_
  obtain⟨j,hj,rfl⟩:=List.getElem_of_mem hx;rw[List.getElem_drop];rw[List.length_drop]at hj
  by_cases hz:j=0
  ·subst hz;simp only[Nat.add_zero];omega
  ·have hb:=cX (n:=n) (r:=r) (a:=p) (b:=p+j) (by omega) (by omega)
   rw[zB,hr]at hb;have:=h0 _ ((order_mem n r _).1 (List.getElem_mem (show p+j<(order n r).length by omega)));omega
 have a3:s*(p:Int)+s≤s*(k:Int):=by
  have:s*((p:Int)+1)≤s*(k:Int):=Int.mul_le_mul_of_nonneg_left (by omega) (by omega);rw[Int.mul_add,Int.mul_one]at this;exact this
 omega
/-! ### shares -/
def limited (n:Int):Bool:=decide (0≤n)&&decide (n≤1099511627776)
theorem limited_iff {n:Int}:limited n=true↔0≤n∧n≤1099511627776:=by unfold limited;simp
def quo (t:Int) (ws:List Int) (i:Nat):Int:=t*ws.getD i 0 / sum ws
def rest (t:Int) (ws:List Int) (i:Nat):Int:=t*ws.getD i 0 % sum ws
def left (t:Int) (ws:List Int):Nat:=(t - sum ((List.range ws.length).map (quo t ws))).toNat
def share (t:Int) (ws:List Int) (i:Nat):Int:=quo t ws i+if top ws.length (rest t ws) (left t ws) i=true then 1 else 0
def shares (t:Int) (ws:List Int):List Int:=(List.range ws.length).map (share t ws)
structure Right (t:Int) (ws:List Int):Prop where
 ht:0≤t
 ht' : t≤1099511627776
 hw:∀x∈ws,0≤x∧x≤1099511627776
 hs:sum ws≠0
variable {t:Int} {ws:List Int}
theorem Right.pos (h:Right t ws):0<sum ws:=by
 have:=sum_nonneg fun x hx=>(h.hw x hx).1
 have:=h.hs;omega
theorem Right.w0 (h:Right t ws)(i:Nat):0≤ws.getD i 0:=by
 rw[List.getD_eq_getElem?_getD]
 rcases Nat.lt_or_ge i ws.length with hi|hi
 ·rw[List.getElem?_eq_getElem hi];exact(h.hw _ (List.getElem_mem hi)).1
 ·rw[List.getElem?_eq_none hi];exact Int.le_refl _
theorem Right.w1 (h:Right t ws)(i:Nat):ws.getD i 0≤sum ws:=by
 rw[List.getD_eq_getElem?_getD]
 rcases Nat.lt_or_ge i ws.length with hi|hi
 ·rw[List.getElem?_eq_getElem hi];exact le_sum (fun x hx=>(h.hw x hx).1) (List.getElem_mem hi)
 ·rw[List.getElem?_eq_none hi];exact sum_nonneg fun x hx=>(h.hw x hx).1
theorem Right.rest0 (h:Right t ws)(i:Nat):0≤rest t ws i:=Int.emod_nonneg _ h.hs
theorem Right.rest1 (h:Right t ws)(i:Nat):rest t ws i<sum ws:=Int.emod_lt_of_pos _ h.pos
theorem Right.quo0 (h:Right t ws)(i:Nat):0≤quo t ws i:=Int.ediv_nonneg (Int.mul_nonneg h.ht (h.w0 i)) (Int.le_of_lt h.pos)
theorem Right.quo1 (h:Right t ws)(i:Nat):quo t ws i≤t:=by
 have:quo t ws i<t+1:=by
  unfold quo;rw[Int.ediv_lt_iff_lt_mul h.pos];have h1:t*ws.getD i 0≤t*sum ws:=Int.mul_le_mul_of_nonneg_left (h.w1 i) h.ht;have:=h.pos;rw[Int.add_mul];omega
 omega
theorem Right.rests (_h:Right t ws):sum ws*sum ((List.range ws.length).map (quo t ws))+sum ((List.range ws.length).map (rest t ws))=sum ws*t:=by
 rw[← sum_map_mul,← bE,vQ (g:=fun i=>t*ws.getD i 0),sum_map_mul,vYA,Int.mul_comm];intro i _;unfold quo rest;rw[Int.mul_comm (sum ws)];have:=Int.emod_add_ediv_mul (t*ws.getD i 0) (sum ws);omega
theorem Right.left_eq (h:Right t ws):(left t ws:Int)=t - sum ((List.range ws.length).map (quo t ws))∧sum ((List.range ws.length).map (rest t ws))=sum ws*(left t ws:Int):=by
 have hr:=h.rests;have hp:=h.pos;have h0:0≤sum ((List.range ws.length).map (rest t ws)):=sum_nonneg fun x hx=>by
  obtain⟨i,_,rfl⟩:=List.mem_map.1 hx;exact h.rest0 i
 unfold left;generalize sum ((List.range ws.length).map (quo t ws))=q at *;generalize sum ((List.range ws.length).map (rest t ws))=m at *;have h1:m=sum ws*(t - q):=by rw[Int.mul_sub];omega
 have h2:0≤t - q:=by
  apply Int.not_lt.1
  intro hn;have:=Int.mul_neg_of_pos_of_neg hp hn;omega
 rw[Int.toNat_of_nonneg h2];exact⟨rfl,h1⟩
theorem quo_succ (t:Int)(ws:List Int)(k:Nat):sum ((List.range (k+1)).map (quo t ws))=sum ((List.range k).map (quo t ws))+quo t ws k:=by
 rw[List.range_succ,List.map_append,sum_append];simp[sum]
theorem Right.quo_sum (h:Right t ws)(k:Nat):0≤sum ((List.range k).map (quo t ws))∧sum ((List.range k).map (quo t ws))≤1099511627776*k:=by
 refine⟨sum_nonneg fun x hx=>?_,?_⟩
 ·obtain⟨i,_,rfl⟩:=List.mem_map.1 hx
  exact h.quo0 i
 ·have:=sum_le_len (l:=(List.range k).map (quo t ws)) (c:=1099511627776) fun x hx=>by
   obtain⟨i,_,rfl⟩:=List.mem_map.1 hx;exact Int.le_trans (h.quo1 i) h.ht'
  simpa using this
theorem Right.quo_bd (h:Right t ws)(k:Nat):0≤quo t ws k∧quo t ws k≤1099511627776:=⟨h.quo0 k,Int.le_trans (h.quo1 k) h.ht'⟩
theorem Right.len (h:Right t ws):0<ws.length:=by
 apply Nat.pos_of_ne_zero
 intro e;exact h.hs (by rw[List.length_eq_zero_iff.1 e];rfl)
theorem Right.left_lt (h:Right t ws):left t ws<ws.length:=by
 have hl:=h.left_eq.2;have hp:=h.pos;have h1:sum ((List.range ws.length).map (rest t ws))≤(sum ws - 1)*((List.range ws.length).map (rest t ws)).length:=sum_le_len fun x hx=>by
  obtain⟨i,_,rfl⟩:=List.mem_map.1 hx;have:=h.rest1 i;omega
 rw[List.length_map,List.length_range]at h1;have hn:=h.len
 apply Nat.lt_of_not_le
 intro hle;have h2:sum ws*(ws.length:Int)≤sum ws*(left t ws:Int):=Int.mul_le_mul_of_nonneg_left (by omega) (by omega);rw[Int.sub_mul,Int.one_mul]at h1;omega
theorem Right.total (h:Right t ws):sum (shares t ws)=t:=by
 unfold shares share;rw[bE,hVA (Nat.le_of_lt h.left_lt)];have:=h.left_eq.1;omega
theorem Right.share_bd (h:Right t ws)(i:Nat):0≤share t ws i∧share t ws i≤t+1:=by
 have:=h.quo0 i;have:=h.quo1 i;unfold share
 split<;>omega
theorem Right.share_zero (h:Right t ws){i:Nat}(hi:i<ws.length)(hz:ws.getD i 0=0):share t ws i=0:=by
 have hr:rest t ws i=0:=by unfold rest;rw[hz];simp
 have hq:quo t ws i=0:=by unfold quo;rw[hz];simp
 unfold share;rw[uXA (s:=sum ws) (Nat.le_of_lt h.left_lt) (fun i _=>h.rest0 i) (fun i _=>h.rest1 i) h.left_eq.2 h.pos hi hr,hq]
 rfl
theorem Right.share_mono (h:Right t ws){i j:Nat}(_hi:i<ws.length)(hj:j<ws.length)(hlt:ws.getD i 0<ws.getD j 0):share t ws i≤share t ws j:=by
 have hp:=h.pos;have hm:t*ws.getD i 0≤t*ws.getD j 0:=Int.mul_le_mul_of_nonneg_left (by omega) h.ht;have hq:quo t ws i≤quo t ws j:=Int.ediv_le_ediv hp hm;unfold share
 rcases Int.lt_or_eq_of_le hq with hq|hq
 ·split<;>split<;>omega
 ·rw[hq]
  by_cases ht:top ws.length (rest t ws) (left t ws) i=true
  ·rw[if_pos ht]
   by_cases htj:top ws.length (rest t ws) (left t ws) j=true
   ·rw[if_pos htj];omega
   ·exfalso
    replace htj:top ws.length (rest t ws) (left t ws) j=false:=by simpa using htj
    unfold top at ht htj;rw[decide_eq_true_eq,List.mem_take_iff_getElem]at ht;obtain⟨a,ha,ea⟩:=ht;obtain⟨b,hb,eb⟩:=List.getElem_of_mem ((order_mem ws.length (rest t ws) j).2 hj);rw[decide_eq_false_iff_not,List.mem_take_iff_getElem]at htj;have hb2:¬b<left t ws:=fun hlt=>htj ⟨b,by omega,eb⟩
    have hbf:=cX (n:=ws.length) (r:=rest t ws) (a:=a) (b:=b) (by omega) hb;rw[ea,eb,zB]at hbf;have e1:=Int.emod_add_ediv_mul (t*ws.getD i 0) (sum ws);have e2:=Int.emod_add_ediv_mul (t*ws.getD j 0) (sum ws);unfold quo at hq;rw[hq]at e1;unfold rest at hbf
    by_cases ht0:t=0
    ·subst ht0
     have hz:sum ((List.range ws.length).map (quo 0 ws))=0:=by
      rw[vQ (g:=fun _=>0),yG]
      ·simp
      ·intro i _;unfold quo;simp
     have hl:=h.left_eq.1;rw[hz]at hl;omega
    ·have hm2:t*ws.getD i 0<t*ws.getD j 0:=Int.mul_lt_mul_of_pos_left hlt (by have:=h.ht;omega)
     omega
  ·rw[if_neg ht];split<;>omega
end Go.Proofs.YtefcalgjnkigjaaGreat.Sh
namespace Go.Proofs.YtefcalgjnkigjaaGreat.Sh
variable {t:Int} {ws:List Int}
theorem Right.share_le (h:Right t ws)(hlt:t<sum ws){i:Nat}(hi:i<ws.length):share t ws i≤ws.getD i 0:=by
 by_cases hz:ws.getD i 0=0
 ·rw[h.share_zero hi hz,hz];exact Int.le_refl _
 ·have w0:=h.w0 i
  have hq:quo t ws i<ws.getD i 0:=by
   unfold quo;rw[Int.ediv_lt_iff_lt_mul h.pos,Int.mul_comm];exact Int.mul_lt_mul_of_pos_left hlt (by omega)
  unfold share
  split<;>omega
theorem shares_getD (t:Int)(ws:List Int)(i:Nat)(hi:i<ws.length):(shares t ws).getD i 0=share t ws i:=by
 unfold shares;exact uT _ _ _ hi
end Go.Proofs.YtefcalgjnkigjaaGreat.Sh
namespace Go.Proofs.YtefcalgjnkigjaaGreat.Re
def ab (l:List (Int × Int)) (i:Nat):Int:=(l.getD i (0,0)).1
def ti (l:List (Int × Int)) (i:Nat):Int:=(l.getD i (0,0)).2
def okAt (l:List (Int × Int)) (i:Nat):Bool :=
 decide (0≤ab l i)&&decide (ab l i≤100000)&&(decide (i=0)||decide (ab l (i - 1)<ab l i)) &&
 ((decide (ti l i = -1)&&decide (i+1=l.length))||(decide (0≤ti l i)&&decide (ti l i≤10)&&(decide (i=0)||decide (ti l (i - 1)≤ti l i))))
structure Right (l:List (Int × Int)):Prop where
 len1:1≤l.length
 len:l.length≤6
 ok:∀i,i<l.length→okAt l i=true
def chk (l:List (Int × Int)):Int:=if 1≤l.length∧l.length≤6∧((List.range l.length).all (okAt l))=true then 0 else 66
variable {l:List (Int × Int)}
theorem chk_zero:chk l=0↔Right l:=by
 unfold chk
 constructor
 ·intro h
  split at h
  ·rename_i hc
   exact⟨hc.1,hc.2.1,fun i hi=>List.all_eq_true.1 hc.2.2 i (List.mem_range.2 hi)⟩
  ·omega
 ·intro h
  rw[if_pos ⟨h.len1,h.len,List.all_eq_true.2 fun i hi=>h.ok i (List.mem_range.1 hi)⟩]
theorem chk_not (h:¬Right l):chk l=66:=by
 unfold chk;rw[if_neg];exact fun hc=>h ⟨hc.1,hc.2.1,fun i hi=>List.all_eq_true.1 hc.2.2 i (List.mem_range.2 hi)⟩
theorem okAt_iff {i:Nat}:okAt l i=true↔(0≤ab l i∧ab l i≤100000)∧(i=0∨ab l (i - 1)<ab l i)∧((ti l i = -1∧i+1=l.length)∨((0≤ti l i∧ti l i≤10)∧(i=0∨ti l (i - 1)≤ti l i))):=by
 unfold okAt;simp only[Bool.and_eq_true,Bool.or_eq_true,decide_eq_true_eq,and_assoc]
theorem Right.ab0 (h:Right l){i:Nat}(hi:i<l.length):0≤ab l i∧ab l i≤100000:=(okAt_iff.1 (h.ok i hi)).1
theorem Right.ti0 (h:Right l){i:Nat}(hi:i<l.length):(ti l i = -1∧i+1=l.length)∨0≤ti l i∧ti l i≤10:=by
 rcases (okAt_iff.1 (h.ok i hi)).2.2 with h|h
 ·exact .inl h
 ·exact .inr h.1
def area (n:Int):Bool:=decide (0≤n)&&decide (n≤268435456)
theorem area_iff {n:Int}:area n=true↔0≤n∧n≤268435456:=by unfold area;simp
theorem area_not {n:Int}:area n=false↔n<0∨268435456<n:=by rw[← Bool.not_eq_true,area_iff];omega
def holds (l:List (Int × Int)) (d f:Int) (i:Nat):Bool:=decide (ab l i*f<1000*max 0 (d - f))
def stepTo (l:List (Int × Int)) (d f:Int):Nat→Int
 | 0 => -1
 | k+1=>if holds l d f k=true then k else stepTo l d f k
def step (l:List (Int × Int)) (d f:Int):Int:=stepTo l d f l.length
def stepV (l:List (Int × Int)) (d f:Int):Int:=if chk l≠0∨area d=false∨area f=false then -1 else step l d f
def paid (l:List (Int × Int)) (d f:Int):Int :=
 if d≤f then d else if step l d f<0 then f else if ti l (step l d f).toNat = -1 then 0 else max 0 (f - ti l (step l d f).toNat*(d - f))
def paidErr (l:List (Int × Int)) (d f:Int):Int:=if chk l≠0 then 66 else if area d=false∨area f=false then 2 else 0
def paidVal (l:List (Int × Int)) (d f:Int):Int:=if paidErr l d f≠0 then 0 else paid l d f
variable {d f:Int}
theorem qBA (k:Nat):(stepTo l d f k = -1∧∀j,j<k→holds l d f j=false)∨∃n:Nat,stepTo l d f k=n∧n<k∧holds l d f n=true∧∀j,n<j→j<k→holds l d f j=false:=by
 induction k with
 | zero=>exact .inl ⟨rfl,fun j hj=>absurd hj (Nat.not_lt_zero j)⟩
 | succ k ih =>
   unfold stepTo
   by_cases hk:holds l d f k=true
   ·rw[if_pos hk]
    exact .inr ⟨k,rfl,by omega,hk,fun j h1 h2=>absurd h2 (by omega)⟩
   ·rw[if_neg hk]
    have hk' : holds l d f k=false:=by simpa using hk
    rcases ih with⟨e,h⟩|⟨n,e,h1,h2,h3⟩
    ·exact .inl ⟨e,fun j hj=>by
      by_cases ej:j=k
      ·rw[ej];exact hk'
      ·exact h j (by omega)⟩
    ·exact .inr ⟨n,e,by omega,h2,fun j g1 g2=>by
      by_cases ej:j=k
      ·rw[ej];exact hk'
      ·exact h3 j g1 (by omega)⟩
theorem step_spec:(step l d f = -1∧∀j,j<l.length→holds l d f j=false)∨∃n:Nat,step l d f=n∧n<l.length∧holds l d f n=true∧∀j,n<j→j<l.length→holds l d f j=false:=qBA l.length
theorem Right.paid_bd (h:Right l)(d0:0≤d)(f0:0≤f):0≤paid l d f∧paid l d f≤d∧paid l d f≤f:=by
 unfold paid
 by_cases h1:d≤f
 ·rw[if_pos h1];omega
 ·rw[if_neg h1]
  by_cases h2:step l d f<0
  ·rw[if_pos h2];omega
  ·rw[if_neg h2]
   by_cases h3:ti l (step l d f).toNat = -1
   ·rw[if_pos h3];omega
   ·rw[if_neg h3]
    rcases step_spec (l:=l) (d:=d) (f:=f) with⟨e,_⟩|⟨n,e,hn,_⟩
    ·omega
    ·rw[e,Int.toNat_natCast]at h3 ⊢
     have ht:0≤ti l n:=by rcases h.ti0 hn with h|h<;>omega
     have:=Int.mul_nonneg ht (show 0≤d - f by omega);omega
end Go.Proofs.YtefcalgjnkigjaaGreat.Re
namespace Go.Proofs.YtefcalgjnkigjaaGreat.Kn
structure yU (Y y1 y0 u c:Int):Prop where
 hY:Y=y1*4294967296+y0
 h0:0≤y0
 h0' : y0<4294967296
 h1:2147483648≤y1
 h1' : y1<4294967296
 hu:0≤u
 hu' : u<Y
 hc:0≤c
 hc' : c<4294967296
structure Inv (Y y1 y0 u c q r:Int):Prop where
 he:u=q*y1+r
 hr:0≤r
 hr' : r<4294967296
 hq:(u*4294967296+c) / Y≤q
 hq' : q≤4294967297
variable {Y y1 y0 u c q r:Int}
theorem yU.pos (h:yU Y y1 y0 u c):0<Y:=by have:=h.hY;have:=h.h1;have:=h.h0;omega
theorem yU.q_nonneg (h:yU Y y1 y0 u c):0≤(u*4294967296+c) / Y:=Int.ediv_nonneg (by have:=h.hu;have:=h.hc;omega) (Int.le_of_lt h.pos)
theorem yU.q_lt (h:yU Y y1 y0 u c):(u*4294967296+c) / Y<4294967296:=by
 rw[Int.ediv_lt_iff_lt_mul h.pos];have:=h.hu'; have:=h.hc'; omega
theorem yU.is (h:yU Y y1 y0 u c)(hq:(u*4294967296+c) / Y≤q)(hm:q*Y≤u*4294967296+c):(u*4294967296+c) / Y=q :=
 Int.le_antisymm hq ((Int.le_ediv_iff_mul_le h.pos).2 hm)
theorem yU.less (h:yU Y y1 y0 u c)(hm:u*4294967296+c<q*Y):(u*4294967296+c) / Y≤q - 1:=by
 have:=(Int.ediv_lt_iff_lt_mul h.pos).2 hm;omega
theorem yU.start (h:yU Y y1 y0 u c):Inv Y y1 y0 u c (u / y1) (u - u / y1*y1):=by
 have hp:0<y1:=by have:=h.h1;omega
 have e1:u / y1*y1≤u:=Int.ediv_mul_le u (by omega);have e2:u<u / y1*y1+y1:=by have:=Int.lt_ediv_add_one_mul_self u hp;rw[Int.add_mul]at this;omega
 have hq0:0≤u / y1:=Int.ediv_nonneg h.hu (by omega);refine⟨by omega,by omega,by have:=h.h1'; omega,?_,?_⟩
 ·rw[Int.le_ediv_iff_mul_le hp]
  have hQ:=Int.ediv_mul_le (u*4294967296+c) (b:=Y) (by have:=h.pos;omega);have hn:=h.q_nonneg;generalize (u*4294967296+c) / Y=Q at *;rw[h.hY,Int.mul_add]at hQ;have h3:0≤Q*y0:=Int.mul_nonneg hn h.h0;have h4:Q*(y1*4294967296)=Q*y1*4294967296:=by rw[Int.mul_assoc]
  have:=h.hc'; omega
 ·have hu' := h.hu'
  rw[h.hY]at hu'; have:=h.h0'
  apply Int.not_lt.1
  intro hlt;have h5:4294967298*y1≤u / y1*y1:=Int.mul_le_mul_of_nonneg_right (by omega) (by omega);have:=h.h1;omega
theorem Inv.num (h:yU Y y1 y0 u c)(k:Inv Y y1 y0 u c q r):q*Y=u*4294967296 - r*4294967296+q*y0:=by
 have:=k.he;have:=h.hY
 grind
theorem Inv.step (h:yU Y y1 y0 u c)(k:Inv Y y1 y0 u c q r)(ht:4294967296≤q∨4294967296*r+c<q*y0):(u*4294967296+c) / Y≤q - 1:=by
 rcases ht with ht|ht
 ·have:=h.q_lt;omega
 ·apply h.less
  rw[k.num h];omega
theorem Inv.next (h:yU Y y1 y0 u c)(k:Inv Y y1 y0 u c q r)(ht:4294967296≤q∨4294967296*r+c<q*y0)(hr:r+y1<4294967296):Inv Y y1 y0 u c (q - 1) (r+y1) :=
 ⟨by have:=k.he;grind,by have:=k.hr;have:=h.h1;omega,hr,k.step h ht,by have:=k.hq'; omega⟩
theorem Inv.out (h:yU Y y1 y0 u c)(k:Inv Y y1 y0 u c q r)(ht:4294967296≤q∨4294967296*r+c<q*y0)(hr:4294967296≤r+y1):(u*4294967296+c) / Y=q - 1:=by
 have hs:=k.step h ht
 apply h.is hs
 have hn:=h.q_nonneg;have e:(q - 1)*Y=u*4294967296 - (r+y1)*4294967296+(q - 1)*y0:=by have:=k.num h;have:=h.hY;grind
 have e2:(q - 1)*y0≤4294967296*y0:=Int.mul_le_mul_of_nonneg_right (by have:=k.hq'; omega) h.h0;have:=h.h0'; have:=h.hc;omega
theorem Inv.done (h:yU Y y1 y0 u c)(k:Inv Y y1 y0 u c q r)(_h1:q<4294967296)(h2:q*y0≤4294967296*r+c):(u*4294967296+c) / Y=q:=by
 apply h.is k.hq
 rw[k.num h];omega
theorem yU.rest (h:yU Y y1 y0 u c):IntKind.u64.wrap (IntKind.u64.wrap (IntKind.u64.wrap (u*4294967296)+c) - IntKind.u64.wrap ((u*4294967296+c) / Y*Y))=(u*4294967296+c) % Y:=by
 have e:=Int.emod_add_ediv_mul (u*4294967296+c) Y;have l:=Int.emod_lt_of_pos (u*4294967296+c) h.pos;have n:=Int.emod_nonneg (u*4294967296+c) (b:=Y) (by have:=h.pos;omega);have hb:Y<18446744073709551616:=by have:=h.hY;have:=h.h1'; have:=h.h0'; omega
 generalize (u*4294967296+c) / Y*Y=p at *;generalize (u*4294967296+c) % Y=m at *;simp only[IntKind.wrap_u64];omega
theorem Inv.ways (h:yU Y y1 y0 u c)(k:Inv Y y1 y0 u c q r) :
  (4294967296≤q∧r+y1<4294967296∧Inv Y y1 y0 u c (q - 1) (r+y1)) ∨
  (q<4294967296∧4294967296*r+c<q*y0∧r+y1<4294967296∧Inv Y y1 y0 u c (q - 1) (r+y1)) ∨
  (4294967296≤q∧4294967296≤r+y1∧q - 1=(u*4294967296+c) / Y) ∨
  (q<4294967296∧4294967296*r+c<q*y0∧4294967296≤r+y1∧q - 1=(u*4294967296+c) / Y) ∨
  (q<4294967296∧q*y0≤4294967296*r+c∧q=(u*4294967296+c) / Y):=by
 by_cases h1:4294967296≤q
 ·by_cases h2:r+y1<4294967296
  ·exact .inl ⟨h1,h2,k.next h (.inl h1) h2⟩
  ·exact .inr (.inr (.inl ⟨h1,by omega,(k.out h (.inl h1) (by omega)).symm⟩))
 ·by_cases h3:4294967296*r+c<q*y0
  ·by_cases h2:r+y1<4294967296
   ·exact .inr (.inl ⟨by omega,h3,h2,k.next h (.inr h3) h2⟩)
   ·exact .inr (.inr (.inr (.inl ⟨by omega,h3,by omega,(k.out h (.inr h3) (by omega)).symm⟩)))
  ·exact .inr (.inr (.inr (.inr ⟨by omega,by omega,(k.done h (by omega) (by omega)).symm⟩)))
theorem Inv.mul (h:yU Y y1 y0 u c)(_k:Inv Y y1 y0 u c q r)(hq0:0≤q)(hq:q<4294967296):IntKind.u64.wrap (q*y0)=q*y0:=by
 have h1:0≤q*y0:=Int.mul_nonneg hq0 h.h0;have h2:q*y0≤4294967296*y0:=Int.mul_le_mul_of_nonneg_right (by omega) h.h0;have:=h.h0'; exact IntWalk.u64_in _ ⟨by omega,by omega⟩
theorem yU.first (h:yU Y y1 y0 u c):IntKind.u64.wrap (u - IntKind.u64.wrap (u / y1*y1))=u - u / y1*y1:=by
 have hp:0<y1:=by have:=h.h1;omega
 have e1:u / y1*y1≤u:=Int.ediv_mul_le u (by omega);have hq0:0≤u / y1*y1:=Int.mul_nonneg (Int.ediv_nonneg h.hu (by omega)) (by omega);have hb:Y<18446744073709551616:=by have:=h.hY;have:=h.h1'; have:=h.h0'; omega
 have:=h.hu'; rw[IntWalk.u64_in _ ⟨hq0,by omega⟩,IntWalk.u64_in _ ⟨by omega,by omega⟩]
theorem whole {Y u a b:Int}(hY:0<Y):(u*18446744073709551616+(a*4294967296+b)) / Y=(u*4294967296+a) / Y*4294967296+((u*4294967296+a) % Y*4294967296+b) / Y∧(u*18446744073709551616+(a*4294967296+b)) % Y=((u*4294967296+a) % Y*4294967296+b) % Y:=by
 have e:=Int.emod_add_ediv_mul (u*4294967296+a) Y;generalize (u*4294967296+a) / Y=p at *;generalize (u*4294967296+a) % Y=m at *;have e2:u*18446744073709551616+(a*4294967296+b)=(m*4294967296+b)+(p*4294967296)*Y:=by grind
 rw[e2,Int.add_mul_ediv_right _ _ (by omega),Int.add_mul_emod_self_right];exact⟨by omega,rfl⟩
theorem shifted {n y k:Int}(hk:0<k):n*k / (y*k)=n / y∧n*k % (y*k) / k=n % y:=by
 refine⟨Int.mul_ediv_mul_of_pos_left _ _ hk,?_⟩
 rw[Int.mul_comm n k,Int.mul_comm y k,Int.mul_emod_mul_of_pos _ _ hk];exact Int.mul_ediv_cancel_left _ (by omega)
def lz (y:Int):Nat:=64 - Lib.bitLen y.toNat
theorem lz_spec {y:Int}(h1:1≤y)(h2:y<18446744073709551616):lz y<64∧(64 - (Lib.bitLen y.toNat:Int))=(lz y:Int)∧9223372036854775808≤y*2 ^ lz y∧y*2 ^ lz y<18446744073709551616:=by
 obtain⟨n,rfl⟩:=Int.eq_ofNat_of_zero_le (show 0≤y by omega);have hn:n<2 ^ 64:=by omega
 obtain⟨b1,b2,b3⟩:=Lib.bitLenAux_bounds 64 n hn (by omega);have b4:=Lib.bitLen_le n 64 mle hn
 change 1≤Lib.bitLen n at b1
 change 2 ^ (Lib.bitLen n - 1)≤n at b2
 change n<2 ^ Lib.bitLen n at b3
 unfold lz;rw[Int.toNat_natCast];generalize Lib.bitLen n=k at *;have e1:2 ^ (k - 1)*2 ^ (64 - k)=9223372036854775808:=by rw[← Nat.pow_add,show k - 1+(64 - k)=63 by omega]
 have e2:2 ^ k*2 ^ (64 - k)=18446744073709551616:=by rw[← Nat.pow_add,show k+(64 - k)=64 by omega]
 have m1:2 ^ (k - 1)*2 ^ (64 - k)≤n*2 ^ (64 - k):=Nat.mul_le_mul_right _ b2;have m2:n*2 ^ (64 - k)<2 ^ k*2 ^ (64 - k):=Nat.mul_lt_mul_of_pos_right b3 (Nat.two_pow_pos _);have c:((n*2 ^ (64 - k):Nat):Int)=(n:Int)*2 ^ (64 - k):=by simp
 exact⟨by omega,by omega,by omega,by omega⟩
theorem vZA (s:Nat)(h:s≤64):(2:Int) ^ s*2 ^ (64 - s)=18446744073709551616:=by
 rw[← Int.pow_add,show s+(64 - s)=64 by omega];rfl
theorem pow_pos (s:Nat):0<(2:Int) ^ s:=Int.pow_pos (by omega)
theorem and_mask (n:Int)(h0:0≤n)(h1:n<18446744073709551616):bits BinOp.and IntKind.u64 n 4294967295=n % 4294967296:=by
 rw[u64_and n 4294967295 h0 h1 (by omega) (by omega)];obtain⟨k,rfl⟩:=Int.eq_ofNat_of_zero_le h0;rw[Int.toNat_natCast,show(4294967295:Int).toNat=2 ^ 32 - 1 from rfl,Nat.and_two_pow_sub_one_eq_mod];omega
theorem or_join (hi lo y:Int)(s:Nat)(hs:s<64)(h0:0≤hi)(h1:hi<y)(h2:y*2 ^ s<18446744073709551616)(h3:0≤lo)(h4:lo<18446744073709551616) :
  IntKind.u64.wrap (hi*2 ^ s)=hi*2 ^ s∧bits BinOp.or IntKind.u64 (hi*2 ^ s) (lo / 2 ^ (64 - s))=hi*2 ^ s+lo / 2 ^ (64 - s) ∧
  0≤hi*2 ^ s+lo / 2 ^ (64 - s)∧hi*2 ^ s+lo / 2 ^ (64 - s)<y*2 ^ s ∧
  (hi*2 ^ s+lo / 2 ^ (64 - s))*18446744073709551616+IntKind.u64.wrap (lo*2 ^ s)=(hi*18446744073709551616+lo)*2 ^ s:=by
 have hp:=pow_pos s;have hq:=pow_pos (64 - s);have hm:=vZA s (by omega);have a1:0≤hi*2 ^ s:=Int.mul_nonneg h0 (by omega);have a2:(hi+1)*2 ^ s≤y*2 ^ s:=Int.mul_le_mul_of_nonneg_right (by omega) (by omega);rw[Int.add_mul,Int.one_mul]at a2;have d0:0≤lo / 2 ^ (64 - s):=Int.ediv_nonneg h3 (by omega);have d1:lo / 2 ^ (64 - s)<2 ^ s:=by rw[Int.ediv_lt_iff_lt_mul hq,hm];exact h4
 refine⟨IntWalk.u64_in _ ⟨a1,by omega⟩,?_,by omega,by omega,?_⟩
 ·rw[u64_or _ _ a1 (by omega) d0 (by omega),nat_join s]
  ·omega
  ·have e:((2 ^ s:Nat):Int)=(2:Int) ^ s:=by simp
   have:(((hi*2 ^ s).toNat % 2 ^ s:Nat):Int)=0:=by rw[Int.natCast_emod,Int.toNat_of_nonneg a1,e];exact Int.mul_emod_left _ _
   omega
  ·have e:((2 ^ s:Nat):Int)=(2:Int) ^ s:=by simp
   omega
 ·rw[IntKind.wrap_u64]
  have e1:=Int.emod_add_ediv_mul lo (2 ^ (64 - s));generalize hA:lo / 2 ^ (64 - s)=A at *;have n1:=Int.emod_nonneg lo (b:=2 ^ (64 - s)) (by omega);have n2:=Int.emod_lt_of_pos lo hq;generalize lo % 2 ^ (64 - s)=m at *;have e2:lo*2 ^ s=m*2 ^ s+A*18446744073709551616:=by rw[← hm,← e1,Int.add_mul];congr 1;rw[Int.mul_assoc,Int.mul_comm (2 ^ (64 - s)) (2 ^ s)]
  have n3:0≤m*2 ^ s:=Int.mul_nonneg n1 (by omega);have n4:m*2 ^ s<2 ^ (64 - s)*2 ^ s:=Int.mul_lt_mul_of_pos_right n2 hp;rw[Int.mul_comm (2 ^ (64 - s)),hm]at n4;rw[Int.add_mul (hi*18446744073709551616)];have e3:hi*18446744073709551616*2 ^ s=hi*2 ^ s*18446744073709551616:=by rw[Int.mul_assoc,Int.mul_comm 18446744073709551616,Int.mul_assoc]
  rw[e3,e2];generalize m*2 ^ s=M at *;generalize hi*2 ^ s=H at *;omega
theorem digit {Y u c:Int}(h1:9223372036854775808≤Y)(h2:Y<18446744073709551616)(hu:0≤u)(hu' : u<Y)(hc:0≤c)(hc' : c<4294967296) :
  yU Y (Y / 4294967296) (Y % 4294967296) u c:=⟨by omega,by omega,by omega,by omega,by omega,hu,hu', hc,hc'⟩
end Go.Proofs.YtefcalgjnkigjaaGreat.Kn
namespace Go.Proofs.YtefcalgjnkigjaaGreat
open Go.RowKit
def qLA:Prop:=∀(y:Int) (w:World),1≤y→y<18446744073709551616→Calls Tryz.prog 202 #[.int .u64 y] w fun e w' => e = .returned (I O (Kn.lz y:Int))∧w=w'
theorem jUA (lo y:Int)(w:World)(h1:0<y)(h2:y<18446744073709551616)(h3:0≤lo)(h4:lo<18446744073709551616) :
  Calls Tryz.prog 176 #[.int .u64 0,.int .u64 lo,.int .u64 y] w fun e w' => e = .returned (.tuple #[.int .u64 (lo / y),.int .u64 (lo % y)])∧∃n,w' = w.drewN n:=by
 have hy:(y==0)=false:=by rw[beq_eq_false_iff_ne];omega
 have hd:IntKind.u64.wrap (lo / y)=lo / y:=IntWalk.u64_in _ ⟨Int.ediv_nonneg h3 (by omega),by have:=Int.ediv_le_self y h3;omega⟩;have hd2:IntKind.u64.wrap (lo % y)=lo % y:=IntWalk.u64_in _ ⟨Int.emod_nonneg _ (by omega),by have:=Int.emod_lt_of_pos lo h1;omega⟩
 go_enter Tryz.func176,Tryz.ntmps176
 go_wp2
 go_quiet (fail)
 go_wp2
 go_ret2
 exact⟨rfl,_,rfl⟩
theorem xKA (hL:qLA)(hi lo y:Int)(w:World)(h0:0<hi)(h1:hi<y)(h2:y<18446744073709551616)(h3:0≤lo)(h4:lo<18446744073709551616) :
  Calls Tryz.prog 176 #[.int .u64 hi,.int .u64 lo,.int .u64 y] w fun e w' => e = .returned (.tuple #[.int .u64 ((hi*18446744073709551616+lo) / y),.int .u64 ((hi*18446744073709551616+lo) % y)])∧∃n,w' = w.drewN n:=by
 obtain⟨s1,s2,s3,s4⟩:=Kn.lz_spec (show 1≤y by omega) h2;obtain⟨j1,j2,j3,j4,j5⟩:=Kn.or_join hi lo y (Kn.lz y) s1 (by omega) h1 s4 h3 h4;have hz:=hL y w (by omega) h2;generalize hs:Kn.lz y=s at *;clear hs s2;have eY:IntKind.u64.wrap (y*2 ^ s)=y*2 ^ s:=IntWalk.u64_in _ ⟨by omega,by omega⟩;have eL0:0≤IntKind.u64.wrap (lo*2 ^ s):=by rw[IntKind.wrap_u64];omega
 have eL1:IntKind.u64.wrap (lo*2 ^ s)<18446744073709551616:=by rw[IntKind.wrap_u64];omega
 have eA1:=Kn.and_mask (y*2 ^ s) (by omega) s4;have eA2:=Kn.and_mask _ eL0 eL1;have e64:(64 - (s:Int)).toNat=64 - s:=by omega
 have hd1:=Kn.shifted (n:=hi*18446744073709551616+lo) (y:=y) (k:=2 ^ s) (Kn.pow_pos s);rw[← j5]at hd1;generalize hl:IntKind.u64.wrap (lo*2 ^ s)=un10 at *;generalize hu:hi*2 ^ s+lo / 2 ^ (64 - s)=un32 at *;generalize hY:y*2 ^ s=Y at *;have G1:=Kn.digit s3 s4 j3 j4 (c:=un10 / 4294967296) (by omega) (by omega);have W1:=Kn.whole (u:=un32) (a:=un10 / 4294967296) (b:=un10 % 4294967296) G1.pos;have e10:un10 / 4294967296*4294967296+un10 % 4294967296=un10:=by omega
 rw[e10]at W1;have G2:=Kn.digit s3 s4 (u:=(un32*4294967296+un10 / 4294967296) % Y) (Int.emod_nonneg _ (by omega)) (Int.emod_lt_of_pos _ (by omega)) (c:=un10 % 4294967296) (by omega) (by omega);have bQ1:=G1.q_nonneg;have bQ1' := G1.q_lt;have bQ0:=G2.q_nonneg;have bQ0' := G2.q_lt;have r1:=G1.rest;have r2:=G2.rest;have st1:=G1.start;have st2:=G2.start;have f1:=G1.first
 have f2:=G2.first
 rw[← hd1.1,← hd1.2,W1.1,W1.2];clear hd1 W1 e10 j5 hu;have by1:=G1.h1;have by1' := G1.h1'; have by0:=G1.h0;have by0' := G1.h0'; have bc1:=G1.hc;have bc1' := G1.hc'; have bc0:=G2.hc;have bc0' := G2.hc'; have bu1:=G1.hu;have bu2:=G2.hu;have bu2' := G2.hu'; generalize hy1:Y / 4294967296=y1 at *;generalize hc1:un10 / 4294967296=c1 at *;generalize hc0:un10 % 4294967296=c0 at *;generalize hy0:Y % 4294967296=y0 at *;generalize hu21:(un32*4294967296+c1) % Y=u21 at *;generalize hQ1:(un32*4294967296+c1) / Y=Q1 at *;generalize hQ0:(u21*4294967296+c0) / Y=Q0 at *;generalize hm2:(u21*4294967296+c0) % Y=m2 at *;generalize hr1:un32 - un32 / y1*y1=r10 at *;generalize hr2:u21 - u21 / y1*y1=r20 at *;generalize hq1:un32 / y1=q10 at *;generalize hq2:u21 / y1=q20 at *;have H1:=mh (And.intro hu21 (And.intro hQ1 (And.intro hQ0 hm2)));have HL:=mh hz;clear hu21 hQ1 hQ0 hm2 hr1 hr2 hz;have b1:=st1.hr;have b2:=st1.hr'; have b3:=st1.hq'; have b4:=st1.hq;have b5:=st2.hr;have b6:=st2.hr'; have b7:=st2.hq'; have b8:=st2.hq;rw[H1.out.2.1]at b4;rw[H1.out.2.2.1]at b8;have hyB:(y==0)=false:=by rw[beq_eq_false_iff_ne];omega
 have hhB:(hi==0)=false:=by rw[beq_eq_false_iff_ne];omega
 have hyn:¬y1=0:=by omega
 go_enter Tryz.func176,Tryz.ntmps176
 go_wp2_with (go_at_call 202;refine(HL.out).mono ?_;rintro e w' ⟨rfl,rfl⟩)
 go_loop [15,16] (fun q r=>∃a b:Int,q = .int .u64 a∧r = .int .u64 b∧Kn.Inv Y y1 y0 un32 c1 a b) (fun q _=>(intOf q).toNat)
 case atStart=>exact⟨_,_,rfl,rfl,by rw[hq1];exact st1⟩
 case round =>
  obtain⟨a,b,rfl,rfl,k⟩:=hrel;have k1:=k.hq;rw[H1.out.2.1]at k1;have k2:=k.hq'; have k3:=k.hr;have k4:=k.hr'; have kw:=k.ways G1;rw[H1.out.2.1]at kw;have km:=k.mul G1 (by omega)
  rcases kw with⟨t1,t2,t3⟩|⟨t1,t2,t3,t4⟩|⟨t1,t2,t3⟩|⟨t1,t2,t3,t4⟩|⟨t1,t2,t3⟩
  ·have T:=mh t3
   clear km k t3
   go_wp2
   go_round
   case rel=>first|exact T.out|exact⟨a - 1,b+y1,rfl,rfl,T.out⟩
   case measure=>simp[intOf];omega
  ·replace km:=km t1
   have p1:=t4.hq;rw[H1.out.2.1]at p1;have T:=mh t4;clear k t4
   go_wp2
   go_round
   case rel=>first|exact T.out|exact⟨a - 1,b+y1,rfl,rfl,T.out⟩
   case measure=>simp[intOf];omega
  ·clear km k
   go_wp2
   go_loop [18,16] (fun q r=>∃a b:Int,q = .int .u64 a∧r = .int .u64 b∧Kn.Inv Y y1 y0 u21 c0 a b) (fun q _=>(intOf q).toNat)
   case atStart=>exact⟨_,_,rfl,rfl,st2⟩
   case round =>
    obtain⟨a', b', rfl,rfl,k'⟩:=hrel;have k1' := k'.hq;rw[H1.out.2.2.1]at k1'; have k2' := k'.hq'; have k3' := k'.hr;have k4' := k'.hr'; have kw' := k'.ways G2;rw[H1.out.2.2.1]at kw'; have km' := k'.mul G2 (by omega)
    rcases kw' with⟨t1', t2', t3'⟩|⟨t1', t2', t3', t4'⟩|⟨t1', t2', t3'⟩|⟨t1', t2', t3', t4'⟩|⟨t1', t2', t3'⟩
    ·have T:=mh t3'
     clear km' k' t3'
     go_wp2
     go_round
     case rel=>first|exact T.out|exact⟨a' - 1,b' + y1,rfl,rfl,T.out⟩
     case measure=>simp[intOf];omega
    ·replace km' := km' t1'
     have p1' := t4'.hq;rw[H1.out.2.2.1]at p1'; have T:=mh t4'; clear k' t4'
     go_wp2
     go_round
     case rel=>first|exact T.out|exact⟨a' - 1,b' + y1,rfl,rfl,T.out⟩
     case measure=>simp[intOf];omega
    ·clear km' k'
     go_wp2
     go_ret2
     exact⟨rfl,0,rfl⟩
    ·replace km' := km' t1'
     clear k'
     go_wp2
     go_ret2
     exact⟨rfl,0,rfl⟩
    ·subst t3'
     replace km' := km' t1'
     clear k'
     go_wp2
     go_ret2
     exact⟨rfl,0,rfl⟩
  ·replace km:=km t1
   clear k
   go_wp2
   go_loop [18,16] (fun q r=>∃a b:Int,q = .int .u64 a∧r = .int .u64 b∧Kn.Inv Y y1 y0 u21 c0 a b) (fun q _=>(intOf q).toNat)
   case atStart=>exact⟨_,_,rfl,rfl,st2⟩
   case round =>
    obtain⟨a', b', rfl,rfl,k'⟩:=hrel;have k1' := k'.hq;rw[H1.out.2.2.1]at k1'; have k2' := k'.hq'; have k3' := k'.hr;have k4' := k'.hr'; have kw' := k'.ways G2;rw[H1.out.2.2.1]at kw'; have km' := k'.mul G2 (by omega)
    rcases kw' with⟨t1', t2', t3'⟩|⟨t1', t2', t3', t4'⟩|⟨t1', t2', t3'⟩|⟨t1', t2', t3', t4'⟩|⟨t1', t2', t3'⟩
    ·have T:=mh t3'
     clear km' k' t3'
     go_wp2
     go_round
     case rel=>first|exact T.out|exact⟨a' - 1,b' + y1,rfl,rfl,T.out⟩
     case measure=>simp[intOf];omega
    ·replace km' := km' t1'
     have p1' := t4'.hq;rw[H1.out.2.2.1]at p1'; have T:=mh t4'; clear k' t4'
     go_wp2
     go_round
     case rel=>first|exact T.out|exact⟨a' - 1,b' + y1,rfl,rfl,T.out⟩
     case measure=>simp[intOf];omega
    ·clear km' k'
     go_wp2
     go_ret2
     exact⟨rfl,0,rfl⟩
    ·replace km' := km' t1'
     clear k'
     go_wp2
     go_ret2
     exact⟨rfl,0,rfl⟩
    ·subst t3'
     replace km' := km' t1'
     clear k'
     go_wp2
     go_ret2
     exact⟨rfl,0,rfl⟩
  ·subst t3
   replace km:=km t1
   clear k
   go_wp2
   go_loop [18,16] (fun q r=>∃a b:Int,q = .int .u64 a∧r = .int .u64 b∧Kn.Inv Y y1 y0 u21 c0 a b) (fun q _=>(intOf q).toNat)
   case atStart=>exact⟨_,_,rfl,rfl,st2⟩
   case round =>
    obtain⟨a', b', rfl,rfl,k'⟩:=hrel;have k1' := k'.hq;rw[H1.out.2.2.1]at k1'; have k2' := k'.hq'; have k3' := k'.hr;have k4' := k'.hr'; have kw' := k'.ways G2;rw[H1.out.2.2.1]at kw'; have km' := k'.mul G2 (by omega)
    rcases kw' with⟨t1', t2', t3'⟩|⟨t1', t2', t3', t4'⟩|⟨t1', t2', t3'⟩|⟨t1', t2', t3', t4'⟩|⟨t1', t2', t3'⟩
    ·have T:=mh t3'
     clear km' k' t3'
     go_wp2
     go_round
     case rel=>first|exact T.out|exact⟨a' - 1,b' + y1,rfl,rfl,T.out⟩
     case measure=>simp[intOf];omega
    ·replace km' := km' t1'
     have p1' := t4'.hq;rw[H1.out.2.2.1]at p1'; have T:=mh t4'; clear k' t4'
     go_wp2
     go_round
     case rel=>first|exact T.out|exact⟨a' - 1,b' + y1,rfl,rfl,T.out⟩
     case measure=>simp[intOf];omega
    ·clear km' k'
     go_wp2
     go_ret2
     exact⟨rfl,0,rfl⟩
    ·replace km' := km' t1'
     clear k'
     go_wp2
     go_ret2
     exact⟨rfl,0,rfl⟩
    ·subst t3'
     replace km' := km' t1'
     clear k'
     go_wp2
     go_ret2
     exact⟨rfl,0,rfl⟩
theorem xVA (hL:qLA)(hi lo y:Int)(w:World)(h0:0≤hi)(h1:hi<y)(h2:y<18446744073709551616)(h3:0≤lo)(h4:lo<18446744073709551616) :
  Calls Tryz.prog 176 #[.int .u64 hi,.int .u64 lo,.int .u64 y] w fun e w' => e = .returned (.tuple #[.int .u64 ((hi*18446744073709551616+lo) / y),.int .u64 ((hi*18446744073709551616+lo) % y)])∧∃n,w' = w.drewN n:=by
 by_cases hz:hi=0
 ·subst hz
  rw[Int.zero_mul,Int.zero_add];exact jUA lo y w h1 h2 h3 h4
 ·exact xKA hL hi lo y w (by omega) h1 h2 h3 h4
end Go.Proofs.YtefcalgjnkigjaaGreat
namespace Go.Proofs
open Go.Shelf
def Tryz.lays134_ren:Go.Shelf.Ren:=⟨fun|134=>202|129=>165|n=>n,fun|53=>215|3=>3|4=>4|46=>174|5=>5|9=>9|n=>n,fun|n=>n⟩
theorem Tryz.lays134:Go.Proofs.Lays.n134 Tryz.prog Tryz.lays134_ren:={
 mixed:=by kernel_rfl
 f129:=Tryz.func165.trans (congrArg some (by kernel_rfl))
 f134:=Tryz.func202.trans (congrArg some (by kernel_rfl))
 t3:=Tryz.underlying3
 a3:=Tryz.isAgg3
 z3:=Tryz.sizeOf3
 v3:=Tryz.zeroValue3
 t4:=Tryz.underlying4
 a4:=Tryz.isAgg4
 z4:=Tryz.sizeOf4
 v4:=Tryz.zeroValue4
 t5:=Tryz.underlying5
 a5:=Tryz.isAgg5
 z5:=Tryz.sizeOf5
 v5:=Tryz.zeroValue5
 t9:=Tryz.underlying9
 a9:=Tryz.isAgg9
 z9:=Tryz.sizeOf9
 v9:=Tryz.zeroValue9
 t46:=Tryz.underlying174
 a46:=Tryz.isAgg174
 z46:=Tryz.sizeOf174
 v46:=Tryz.zeroValue174
 t53:=Tryz.underlying215
 a53:=Tryz.isAgg215
 z53:=Tryz.sizeOf215
 v53:=Tryz.zeroValue215 }
theorem Tryz.bits_LeadingZeros64 (x:Int)(w:World)(h0:0≤x)(h1:x≤18446744073709551615) :
  Calls Tryz.prog 202 #[.int .u64 x] w fun e w' => e = .returned (I O (64 - (Lib.bitLen x.toNat:Int)))∧w' = w:=Any.bits_LeadingZeros64 Tryz.lays134 x w h0 h1
def Tryz.lays122_ren:Go.Shelf.Ren:=⟨fun|122=>139|215=>178|n=>n,fun|3=>3|4=>4|n=>n,fun|n=>n⟩
theorem Tryz.lays122:Go.Proofs.Lays.n122 Tryz.prog Tryz.lays122_ren:={
 mixed:=by kernel_rfl
 f122:=Tryz.func139.trans (congrArg some (by kernel_rfl))
 f215:=Tryz.func178.trans (congrArg some (by kernel_rfl))
 t3:=Tryz.underlying3
 a3:=Tryz.isAgg3
 z3:=Tryz.sizeOf3
 v3:=Tryz.zeroValue3
 t4:=Tryz.underlying4
 a4:=Tryz.isAgg4
 z4:=Tryz.sizeOf4
 v4:=Tryz.zeroValue4 }
open Go.RowKit in
theorem Tryz.cmp_Compare_int (x y:Int)(w:World) :
  Calls Tryz.prog 139 #[I O x,I O y] w fun e w' => e = .returned (I O (Lib.compareInt x y))∧w' = w:=Any.cmp_Compare_int Tryz.lays122 x y w
def Tryz.lays264_ren:Go.Shelf.Ren:=⟨fun|264=>179|n=>n,fun|53=>215|46=>174|n=>n,fun|n=>n⟩
theorem Tryz.lays264:Go.Proofs.Lays.n264 Tryz.prog Tryz.lays264_ren:={
 mixed:=by kernel_rfl
 f264:=Tryz.func179.trans (congrArg some (by kernel_rfl))
 t46:=Tryz.underlying174
 a46:=Tryz.isAgg174
 z46:=Tryz.sizeOf174
 v46:=Tryz.zeroValue174
 t53:=Tryz.underlying215
 a53:=Tryz.isAgg215
 z53:=Tryz.sizeOf215
 v53:=Tryz.zeroValue215 }
open Go.RowKit Go.Lib in
theorem Tryz.bits_Mul64 (x y:Nat)(hx:x<18446744073709551616)(hy:y<18446744073709551616)(w:World) :
  Calls Tryz.prog 179 #[.int .u64 x,.int .u64 y] w fun e w' => e = .returned (.tuple #[.int .u64 ((x*y / 18446744073709551616:Nat):Int),.int .u64 ((x*y % 18446744073709551616:Nat):Int)])∧w' = w:=Any.bits_Mul64 Tryz.lays264 x y hx hy w
def Tryz.laysSlH8_f133_ren:Go.Shelf.Ren:=⟨fun|8=>133|6=>174|n=>n,fun|22=>22|23=>3|25=>99|4=>4|3=>3|0=>0|n=>n,fun|n=>n⟩
theorem Tryz.laysSlH8_f133:Go.Proofs.SlLaysH.n8 Tryz.prog Tryz.laysSlH8_f133_ren:={
 mixed:=by kernel_rfl
 f6:=⟨Tryz.f174.name,by decide,Tryz.func174.trans (congrArg some (by kernel_rfl))⟩
 f8:=⟨Tryz.f133.name,by decide,Tryz.func133.trans (congrArg some (by kernel_rfl))⟩
 t0:=Tryz.underlying0
 a0:=Tryz.isAgg0
 z0:=Tryz.sizeOf0
 v0:=Tryz.zeroValue0
 t3:=Tryz.underlying3
 a3:=Tryz.isAgg3
 z3:=Tryz.sizeOf3
 v3:=Tryz.zeroValue3
 t4:=Tryz.underlying4
 a4:=Tryz.isAgg4
 z4:=Tryz.sizeOf4
 v4:=Tryz.zeroValue4
 t22:=Tryz.underlying22
 a22:=Tryz.isAgg22
 z22:=Tryz.sizeOf22
 v22:=Tryz.zeroValue22
 a23:=Tryz.isAgg3
 z23:=Tryz.sizeOf3
 t25:=Tryz.underlying99
 a25:=Tryz.isAgg99
 z25:=Tryz.sizeOf99
 v25:=Tryz.zeroValue99 }
open Go.RowKit Go.Lib in
theorem Tryz.slices_ContainsFunc {α:Type} [Inhabited α] (enc:α→Value) (p:α→Bool) (g:Nat) (lb:Array Value) (eg:∀args w,(callFunc g args).run Tryz.prog w = .ok (.enter g args) w) (b off n c:Nat) (zs:List α) (w:World) (hp:PredAt Tryz.prog g lb enc p w) (hz:n≤zs.length) (hbig:n≤9223372036854775807) (hc:∀j,j<zs.length→w.cell? ⟨b,off+j,none⟩=some (enc zs[j]!)) :
  Calls Tryz.prog 133 #[.slice (some ⟨b,off,none⟩) n c,.func (.func g) #[] lb] w fun e w' => e = .returned (.bool ((zs.take n).any p))∧∃q,w' = w.drewN q:=AnyE.slices_ContainsFunc Tryz.laysSlH8_f133 enc p g lb eg b off n c zs w hp hz hbig hc
open Go.RowKit Go.Lib in
theorem Tryz.slices_ContainsFunc_empty {α:Type} [Inhabited α] (a:Option Addr) (c:Nat) (fv:Value) (w:World) :
  Calls Tryz.prog 133 #[.slice a 0 c,fv] w fun e w' => e = .returned (.bool false)∧w' = w:=AnyE.slices_ContainsFunc_empty Tryz.laysSlH8_f133 a c fv w
def Tryz.laysSlF6_f136_ren:Go.Shelf.Ren:=⟨fun|6=>136|15=>113|14=>177|28=>164|29=>165|20=>203|21=>204|22=>205|23=>206|24=>207|25=>208|26=>209|27=>210|46=>218|47=>192|48=>193|49=>219|50=>220|57=>226|n=>n,fun|22=>22|24=>3|25=>37|3=>3|39=>174|0=>0|53=>213|55=>215|4=>4|46=>206|45=>205|50=>175|5=>5|9=>9|66=>236|70=>240|76=>253|77=>71|n=>n,fun|n=>n⟩
theorem Tryz.laysSlF6_f136:Go.Proofs.SlLaysF.n6 Tryz.prog Tryz.laysSlF6_f136_ren:={
 mixed:=by kernel_rfl
 f6:=⟨Tryz.f136.name,by decide,Tryz.func136.trans (congrArg some (by kernel_rfl))⟩
 f14:=⟨Tryz.f177.name,by decide,Tryz.func177.trans (congrArg some (by kernel_rfl))⟩
 f15:=Tryz.func113.trans (congrArg some (by kernel_rfl))
 f20:=⟨Tryz.f203.name,by decide,Tryz.func203.trans (congrArg some (by kernel_rfl))⟩
 f21:=⟨Tryz.f204.name,by decide,Tryz.func204.trans (congrArg some (by kernel_rfl))⟩
 f22:=⟨Tryz.f205.name,by decide,Tryz.func205.trans (congrArg some (by kernel_rfl))⟩
 f23:=⟨Tryz.f206.name,by decide,Tryz.func206.trans (congrArg some (by kernel_rfl))⟩
 f24:=⟨Tryz.f207.name,by decide,Tryz.func207.trans (congrArg some (by kernel_rfl))⟩
 f25:=⟨Tryz.f208.name,by decide,Tryz.func208.trans (congrArg some (by kernel_rfl))⟩
 f26:=⟨Tryz.f209.name,by decide,Tryz.func209.trans (congrArg some (by kernel_rfl))⟩
 f27:=⟨Tryz.f210.name,by decide,Tryz.func210.trans (congrArg some (by kernel_rfl))⟩
 f28:=Tryz.func164.trans (congrArg some (by kernel_rfl))
 f29:=Tryz.func165.trans (congrArg some (by kernel_rfl))
 f46:=⟨Tryz.f218.name,by decide,Tryz.func218.trans (congrArg some (by kernel_rfl))⟩
 f47:=Tryz.func192.trans (congrArg some (by kernel_rfl))
 f48:=Tryz.func193.trans (congrArg some (by kernel_rfl))
 f49:=⟨Tryz.f219.name,by decide,Tryz.func219.trans (congrArg some (by kernel_rfl))⟩
 f50:=⟨Tryz.f220.name,by decide,Tryz.func220.trans (congrArg some (by kernel_rfl))⟩
 f57:=⟨Tryz.f226.name,by decide,Tryz.func226.trans (congrArg some (by kernel_rfl))⟩
 t0:=Tryz.underlying0
 a0:=Tryz.isAgg0
 z0:=Tryz.sizeOf0
 v0:=Tryz.zeroValue0
 t3:=Tryz.underlying3
 a3:=Tryz.isAgg3
 z3:=Tryz.sizeOf3
 v3:=Tryz.zeroValue3
 t4:=Tryz.underlying4
 a4:=Tryz.isAgg4
 z4:=Tryz.sizeOf4
 v4:=Tryz.zeroValue4
 t5:=Tryz.underlying5
 a5:=Tryz.isAgg5
 z5:=Tryz.sizeOf5
 v5:=Tryz.zeroValue5
 t9:=Tryz.underlying9
 a9:=Tryz.isAgg9
 z9:=Tryz.sizeOf9
 v9:=Tryz.zeroValue9
 t22:=Tryz.underlying22
 a22:=Tryz.isAgg22
 z22:=Tryz.sizeOf22
 v22:=Tryz.zeroValue22
 a24:=Tryz.isAgg3
 z24:=Tryz.sizeOf3
 t25:=Tryz.underlying37
 a25:=Tryz.isAgg37
 z25:=Tryz.sizeOf37
 v25:=Tryz.zeroValue37
 t39:=Tryz.underlying174
 a39:=Tryz.isAgg174
 z39:=Tryz.sizeOf174
 v39:=Tryz.zeroValue174
 t45:=Tryz.underlying205
 a45:=Tryz.isAgg205
 z45:=Tryz.sizeOf205
 v45:=Tryz.zeroValue205
 t46:=Tryz.underlying206
 a46:=Tryz.isAgg206
 z46:=Tryz.sizeOf206
 v46:=Tryz.zeroValue206
 t50:=Tryz.underlying175
 a50:=Tryz.isAgg175
 z50:=Tryz.sizeOf175
 v50:=Tryz.zeroValue175
 t53:=Tryz.underlying213
 a53:=Tryz.isAgg213
 z53:=Tryz.sizeOf213
 v53:=Tryz.zeroValue213
 t55:=Tryz.underlying215
 a55:=Tryz.isAgg215
 z55:=Tryz.sizeOf215
 v55:=Tryz.zeroValue215
 t66:=Tryz.underlying236
 a66:=Tryz.isAgg236
 z66:=Tryz.sizeOf236
 v66:=Tryz.zeroValue236
 t70:=Tryz.underlying240
 a70:=Tryz.isAgg240
 z70:=Tryz.sizeOf240
 v70:=Tryz.zeroValue240
 t76:=Tryz.underlying253
 a76:=Tryz.isAgg253
 z76:=Tryz.sizeOf253
 v76:=Tryz.zeroValue253
 t77:=Tryz.underlying71
 a77:=Tryz.isAgg71
 z77:=Tryz.sizeOf71
 v77:=Tryz.zeroValue71 }
open Go.RowKit Go.Lib Go.Sort in
theorem Tryz.slices_SortFunc_total {α:Type} [Inhabited α] (enc:α→Value) (h1:OneCell enc) (cf:α→α→Int) (hO:SWO (ltOf cf)) (g:Nat) (cb:Array Value) (blk off cap:Nat) (d:Array α) (w:World) (eg:∀args w,(callFunc g args).run Tryz.prog w = .ok (.enter g args) w) (hcmp:CmpLays1 Tryz.prog g cb enc cf blk off d.size w) (hH:Holds enc w blk off d) (hblk:blk<w.heap.size) (hsz:d.size<4611686018427387904) (hT:∀x y,(ltOf cf) x y=false→(ltOf cf) y x=false→x=y) :
  Calls Tryz.prog 136 #[.slice (some ⟨blk,off,none⟩) d.size cap,.func (.func g) #[] cb] w fun e w' =>
   e = .returned (.tuple #[])∧∃n os,w' = sortWorld enc w blk off n (d.toList.mergeSort fun x y => !(ltOf cf) y x).toArray os:=Any.slices_SortFunc_total Tryz.laysSlF6_f136 enc h1 cf hO g cb blk off cap d w eg hcmp hH hblk hsz hT
end Go.Proofs
