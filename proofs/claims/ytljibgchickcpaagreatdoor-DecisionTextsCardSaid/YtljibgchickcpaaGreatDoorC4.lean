/- Packed. -/
import Derived.Test.YtljibgchickcpaaGreatDoorC3
set_option maxRecDepth 100000
set_option maxHeartbeats 1000000
open Go.Value renaming int → I
open Go.IntKind renaming i64 → O
namespace Go.Proofs.YtljibgchickcpaaGreatDoor.Sh
/-! ### sums -/
theorem sum_perm {l m:List Int}(h:l.Perm m):sum l=sum m:=by
 induction h with
 | nil=>rfl
 | cons x _ ih=>simp only[sum,ih]
 | swap x y l=>simp only[sum];omega
 | trans _ _ ih1 ih2=>exact ih1.trans ih2
theorem sum_map_add {α:Type}(f g:α→Int)(l:List α):sum (l.map fun x=>f x+g x)=sum (l.map f)+sum (l.map g):=by
 induction l with
 | nil=>simp[sum]
 | cons x l ih=>simp only[List.map_cons,sum,ih];omega
theorem sum_map_mul {α:Type}(c:Int)(f:α→Int)(l:List α):sum (l.map fun x=>c*f x)=c*sum (l.map f):=by
 induction l with
 | nil=>simp[sum]
 | cons x l ih=>simp only[List.map_cons,sum,ih,Int.mul_add]
theorem sum_map_const {α:Type}(c:Int)(l:List α):sum (l.map fun _=>c)=c*l.length:=by
 induction l with
 | nil=>simp[sum]
 | cons x l ih=>simp only[List.map_cons,sum,ih,List.length_cons];rw[Int.natCast_add,Int.mul_add];omega
theorem sum_map_le {α:Type}{f g:α→Int}{l:List α}(h:∀x∈l,f x≤g x):sum (l.map f)≤sum (l.map g):=by
 induction l with
 | nil=>simp[sum]
 | cons x l ih =>
   have:=ih fun y hy=>h y (List.mem_cons_of_mem _ hy)
   have:=h x List.mem_cons_self;simp only[List.map_cons,sum];omega
theorem sum_map_congr {α:Type}{f g:α→Int}{l:List α}(h:∀x∈l,f x=g x):sum (l.map f)=sum (l.map g):=by
 rw[List.map_congr_left h]
theorem sum_nonneg {l:List Int}(h:∀x∈l,0≤x):0≤sum l:=by
 induction l with
 | nil=>simp[sum]
 | cons x l ih =>
   have:=ih fun y hy=>h y (List.mem_cons_of_mem _ hy)
   have:=h x List.mem_cons_self;simp only[sum];omega
theorem le_sum {l:List Int}(h:∀x∈l,0≤x){y:Int}(hy:y∈l):y≤sum l:=by
 induction l with
 | nil=>cases hy
 | cons x l ih =>
   have h1:∀z∈l,0≤z:=fun z hz=>h z (List.mem_cons_of_mem _ hz)
   have h2:=sum_nonneg h1;have h3:=h x List.mem_cons_self;simp only[sum]
   rcases List.mem_cons.1 hy with rfl|hy
   ·omega
   ·have:=ih h1 hy;omega
theorem sum_le_len {l:List Int}{c:Int}(h:∀x∈l,x≤c):sum l≤c*l.length:=by
 have:=sum_map_le (f:=fun x=>x) (g:=fun _=>c) h;rw[sum_map_const]at this
 simpa using this
theorem sum_range (l:List Int):sum ((List.range l.length).map fun i=>l.getD i 0)=sum l:=by
 congr 1
 apply List.ext_getElem
 ·simp
 ·intro i h1 h2
  simp at h1 h2 ⊢
  simp[h1]
/-! ### the order -/
def before (r:Nat→Int) (i j:Nat):Bool:=decide (r j<r i)||(decide (r i=r j)&&decide (i<j))
theorem before_iff {r:Nat→Int}{i j:Nat}:before r i j=true↔r j<r i∨r i=r j∧i<j:=by unfold before;simp
theorem before_not {r:Nat→Int}{i j:Nat}:before r i j=false↔¬(r j<r i∨r i=r j∧i<j):=by rw[← before_iff];simp
def cf (n:Nat) (r:Nat→Int) (x y:Fin n):Int:=if r x.val<r y.val then 1 else if r y.val<r x.val then -1 else if x.val<y.val then -1 else if y.val<x.val then 1 else 0
theorem lt_cf (n:Nat)(r:Nat→Int)(x y:Fin n):ltOf (cf n r) x y=before r x.val y.val:=by
 rw[Bool.eq_iff_iff,before_iff];unfold ltOf cf;rw[decide_eq_true_eq]
 split<;>(try split)<;>(try split)<;>(try split)<;>omega
def order (n:Nat) (r:Nat→Int):List Nat:=((List.finRange n).mergeSort fun x y => !(ltOf (cf n r) y x)).map Fin.val
theorem order_perm (n:Nat)(r:Nat→Int):(order n r).Perm (List.range n):=by
 unfold order;refine((List.mergeSort_perm _ _).map _).trans ?_;rw[show(List.finRange n).map Fin.val=List.range n from by apply List.ext_getElem<;>simp]
theorem order_nodup (n:Nat)(r:Nat→Int):(order n r).Nodup:=(order_perm n r).nodup_iff.2 List.nodup_range
theorem order_len (n:Nat)(r:Nat→Int):(order n r).length=n:=by rw[(order_perm n r).length_eq,List.length_range]
theorem order_mem (n:Nat)(r:Nat→Int)(i:Nat):i∈order n r↔i<n:=by rw[(order_perm n r).mem_iff,List.mem_range]
theorem order_sorted (n:Nat)(r:Nat→Int):(order n r).Pairwise fun i j=>before r j i=false:=by
 unfold order;rw[List.pairwise_map];refine(List.pairwise_mergeSort (le:=fun x y => !(ltOf (cf n r) y x)) ?_ ?_ (List.finRange n)).imp ?_
 ·intro a b c h1 h2
  simp only[Bool.not_eq_true', lt_cf,before_not]at *;omega
 ·intro a b
  simp only[Bool.or_eq_true,Bool.not_eq_true', lt_cf,before_not];omega
 ·intro a b h
  simpa only [Bool.not_eq_true', lt_cf] using h
theorem nodup_inj {l:List Nat}(h:l.Nodup){a b:Nat}(ha:a<l.length)(hb:b<l.length)(e:l[a]=l[b]):a=b:=by
 have p:=List.pairwise_iff_getElem.1 h
 rcases Nat.lt_trichotomy a b with hl|hl|hl
 ·exact absurd e (p a b ha hb hl)
 ·exact hl
 ·exact absurd e.symm (p b a hb ha hl)
theorem order_lt {n:Nat}{r:Nat→Int}{a b:Nat}(hab:a<b)(hb:b<(order n r).length):before r ((order n r)[a]'(by omega)) ((order n r)[b])=true:=by
 have h:=List.pairwise_iff_getElem.1 (order_sorted n r) a b (by omega) hb hab;have hne:(order n r)[a]'(by omega)≠(order n r)[b]:=fun e=>by
  have:=nodup_inj (order_nodup n r) _ _ e;omega
 rw[before_not]at h;rw[before_iff];omega
def top (n:Nat) (r:Nat→Int) (k i:Nat):Bool:=decide (i∈(order n r).take k)
theorem top_zero (n:Nat)(r:Nat→Int)(i:Nat):top n r 0 i=false:=by simp[top]
theorem top_succ {n:Nat}{r:Nat→Int}{k i:Nat}(hk:k<(order n r).length):top n r (k+1) i=(top n r k i||decide (i=(order n r)[k])):=by
 unfold top;rw[Bool.eq_iff_iff];simp only[Bool.or_eq_true,decide_eq_true_eq];rw[tsg hk,List.mem_append,List.mem_singleton]
theorem top_at {n:Nat}{r:Nat→Int}{k:Nat}(hk:k<(order n r).length):top n r k (order n r)[k]=false:=by
 unfold top;rw[decide_eq_false_iff_not,List.mem_take_iff_getElem];rintro ⟨j,hj,e⟩;have:=nodup_inj (order_nodup n r) _ _ e;omega
theorem top_best {n:Nat}{r:Nat→Int}{k i:Nat}(hk:k<(order n r).length)(hi:i<n)(ht:top n r k i=false)(hne:i≠(order n r)[k]):before r (order n r)[k] i=true:=by
 obtain⟨j,hj,rfl⟩:=List.getElem_of_mem ((order_mem n r i).2 hi);have h1:¬j<k:=fun h=>by
  unfold top at ht;rw[decide_eq_false_iff_not,List.mem_take_iff_getElem]at ht;exact ht ⟨j,by omega,rfl⟩
 have h2:j≠k:=fun e=>hne (by subst e;rfl)
 exact order_lt (by omega) hj
theorem top_sum {n:Nat}{r:Nat→Int}{k:Nat}(hk:k≤n):sum ((List.range n).map fun i=>if top n r k i=true then 1 else 0)=k:=by
 rw[← sum_perm ((order_perm n r).map _)];have hn:=order_nodup n r;have e:order n r=(order n r).take k++(order n r).drop k:=(List.take_append_drop k _).symm;have d:=List.nodup_append.1 (e▸hn);rw[show(order n r).map (fun i=>if top n r k i=true then (1:Int) else 0)=((order n r).take k++(order n r).drop k).map (fun i=>if top n r k i=true then (1:Int) else 0) from by rw[← e],List.map_append,sum_append];rw[sum_map_congr (g:=fun _=>1) (l:=(order n r).take k),sum_map_congr (g:=fun _=>0) (l:=(order n r).drop k),sum_map_const,sum_map_const]
 ·rw[List.length_take,order_len];omega
 ·intro x hx
  rw[if_neg];unfold top;rw[decide_eq_true_eq];exact fun h=>d.2.2 x h x hx rfl
 ·intro x hx
  rw[if_pos];unfold top;exact dqt hx
theorem top_none {n:Nat}{r:Nat→Int}{k:Nat}{s:Int}(_hk:k≤n)(h0:∀i,i<n→0≤r i)(h1:∀i,i<n→r i<s)(hs:sum ((List.range n).map r)=s*k)(hpos:0<s){i:Nat}(hi:i<n)(hr:r i=0):top n r k i=false:=by
 apply Bool.eq_false_iff.2
 intro ht;unfold top at ht;rw[decide_eq_true_eq,List.mem_take_iff_getElem]at ht;obtain⟨p,hp,rfl⟩:=ht;have hpk:p<k:=by omega
 have hpl:p<(order n r).length:=by omega
 have e:order n r=(order n r).take (p)++(order n r).drop p:=(List.take_append_drop p _).symm;rw[← sum_perm ((order_perm n r).map r),e,List.map_append,sum_append]at hs;have a1:sum (((order n r).take p).map r)≤s*p:=by
  have:=sum_map_le (f:=r) (g:=fun _=>s) (l:=(order n r).take p) (fun x hx=>Int.le_of_lt (h1 x ((order_mem n r x).1 (List.mem_of_mem_take hx))));rw[sum_map_const,List.length_take,Nat.min_eq_left (by omega)]at this;exact this
 have a2:sum (((order n r).drop p).map r)≤0*((order n r).drop p).length:=by
  rw[← sum_map_const];refine sum_map_le fun x hx=>?_
  obtain⟨j,hj,rfl⟩:=List.getElem_of_mem hx;rw[List.getElem_drop];rw[List.length_drop]at hj
  by_cases hz:j=0
  ·subst hz;simp only[Nat.add_zero];omega
  ·have hb:=order_lt (n:=n) (r:=r) (a:=p) (b:=p+j) (by omega) (by omega)
   rw[before_iff,hr]at hb;have:=h0 _ ((order_mem n r _).1 (List.getElem_mem (show p+j<(order n r).length by omega)));omega
 have a3:s*(p:Int)+s≤s*(k:Int):=by
  have:s*((p:Int)+1)≤s*(k:Int):=Int.mul_le_mul_of_nonneg_left (by omega) (by omega);rw[Int.mul_add,Int.mul_one]at this;exact this
 omega
/-! ### shares -/
def limited (n:Int):Bool:=decide (0≤n)&&decide (n≤1099511627776)
theorem limited_iff {n:Int}:limited n=true↔0≤n∧n≤1099511627776:=by unfold limited;simp
def quo (t:Int) (ws:List Int) (i:Nat):Int:=t*ws.getD i 0 / sum ws
def rest (t:Int) (ws:List Int) (i:Nat):Int:=t*ws.getD i 0 % sum ws
def left (t:Int) (ws:List Int):Nat:=(t - sum ((List.range ws.length).map (quo t ws))).toNat
def share (t:Int) (ws:List Int) (i:Nat):Int:=quo t ws i+if top ws.length (rest t ws) (left t ws) i=true then 1 else 0
def shares (t:Int) (ws:List Int):List Int:=(List.range ws.length).map (share t ws)
structure Right (t:Int) (ws:List Int):Prop where
 ht:0≤t
 ht' : t≤1099511627776
 hw:∀x∈ws,0≤x∧x≤1099511627776
 hs:sum ws≠0
variable {t:Int} {ws:List Int}
theorem Right.pos (h:Right t ws):0<sum ws:=by
 have:=sum_nonneg fun x hx=>(h.hw x hx).1
 have:=h.hs;omega
theorem Right.w0 (h:Right t ws)(i:Nat):0≤ws.getD i 0:=by
 rw[List.getD_eq_getElem?_getD]
 rcases Nat.lt_or_ge i ws.length with hi|hi
 ·rw[List.getElem?_eq_getElem hi];exact(h.hw _ (List.getElem_mem hi)).1
 ·rw[List.getElem?_eq_none hi];exact Int.le_refl _
theorem Right.w1 (h:Right t ws)(i:Nat):ws.getD i 0≤sum ws:=by
 rw[List.getD_eq_getElem?_getD]
 rcases Nat.lt_or_ge i ws.length with hi|hi
 ·rw[List.getElem?_eq_getElem hi];exact le_sum (fun x hx=>(h.hw x hx).1) (List.getElem_mem hi)
 ·rw[List.getElem?_eq_none hi];exact sum_nonneg fun x hx=>(h.hw x hx).1
theorem Right.rest0 (h:Right t ws)(i:Nat):0≤rest t ws i:=Int.emod_nonneg _ h.hs
theorem Right.rest1 (h:Right t ws)(i:Nat):rest t ws i<sum ws:=Int.emod_lt_of_pos _ h.pos
theorem Right.quo0 (h:Right t ws)(i:Nat):0≤quo t ws i:=Int.ediv_nonneg (Int.mul_nonneg h.ht (h.w0 i)) (Int.le_of_lt h.pos)
theorem Right.quo1 (h:Right t ws)(i:Nat):quo t ws i≤t:=by
 have:quo t ws i<t+1:=by
  unfold quo;rw[Int.ediv_lt_iff_lt_mul h.pos];have h1:t*ws.getD i 0≤t*sum ws:=Int.mul_le_mul_of_nonneg_left (h.w1 i) h.ht;have:=h.pos;rw[Int.add_mul];omega
 omega
theorem Right.rests (_h:Right t ws):sum ws*sum ((List.range ws.length).map (quo t ws))+sum ((List.range ws.length).map (rest t ws))=sum ws*t:=by
 rw[← sum_map_mul,← sum_map_add,sum_map_congr (g:=fun i=>t*ws.getD i 0),sum_map_mul,sum_range,Int.mul_comm];intro i _;unfold quo rest;rw[Int.mul_comm (sum ws)];have:=Int.emod_add_ediv_mul (t*ws.getD i 0) (sum ws);omega
theorem Right.left_eq (h:Right t ws):(left t ws:Int)=t - sum ((List.range ws.length).map (quo t ws))∧sum ((List.range ws.length).map (rest t ws))=sum ws*(left t ws:Int):=by
 have hr:=h.rests;have hp:=h.pos;have h0:0≤sum ((List.range ws.length).map (rest t ws)):=sum_nonneg fun x hx=>by
  obtain⟨i,_,rfl⟩:=List.mem_map.1 hx;exact h.rest0 i
 unfold left;generalize sum ((List.range ws.length).map (quo t ws))=q at *;generalize sum ((List.range ws.length).map (rest t ws))=m at *;have h1:m=sum ws*(t - q):=by rw[Int.mul_sub];omega
 have h2:0≤t - q:=by
  apply Int.not_lt.1
  intro hn;have:=Int.mul_neg_of_pos_of_neg hp hn;omega
 rw[Int.toNat_of_nonneg h2];exact⟨rfl,h1⟩
theorem quo_succ (t:Int)(ws:List Int)(k:Nat):sum ((List.range (k+1)).map (quo t ws))=sum ((List.range k).map (quo t ws))+quo t ws k:=by
 rw[List.range_succ,List.map_append,sum_append];simp[sum]
theorem Right.quo_sum (h:Right t ws)(k:Nat):0≤sum ((List.range k).map (quo t ws))∧sum ((List.range k).map (quo t ws))≤1099511627776*k:=by
 refine⟨sum_nonneg fun x hx=>?_,?_⟩
 ·obtain⟨i,_,rfl⟩:=List.mem_map.1 hx
  exact h.quo0 i
 ·have:=sum_le_len (l:=(List.range k).map (quo t ws)) (c:=1099511627776) fun x hx=>by
   obtain⟨i,_,rfl⟩:=List.mem_map.1 hx;exact Int.le_trans (h.quo1 i) h.ht'
  simpa using this
theorem Right.quo_bd (h:Right t ws)(k:Nat):0≤quo t ws k∧quo t ws k≤1099511627776:=⟨h.quo0 k,Int.le_trans (h.quo1 k) h.ht'⟩
theorem Right.len (h:Right t ws):0<ws.length:=by
 apply Nat.pos_of_ne_zero
 intro e;exact h.hs (by rw[List.length_eq_zero_iff.1 e];rfl)
theorem Right.left_lt (h:Right t ws):left t ws<ws.length:=by
 have hl:=h.left_eq.2;have hp:=h.pos;have h1:sum ((List.range ws.length).map (rest t ws))≤(sum ws - 1)*((List.range ws.length).map (rest t ws)).length:=sum_le_len fun x hx=>by
  obtain⟨i,_,rfl⟩:=List.mem_map.1 hx;have:=h.rest1 i;omega
 rw[List.length_map,List.length_range]at h1;have hn:=h.len
 apply Nat.lt_of_not_le
 intro hle;have h2:sum ws*(ws.length:Int)≤sum ws*(left t ws:Int):=Int.mul_le_mul_of_nonneg_left (by omega) (by omega);rw[Int.sub_mul,Int.one_mul]at h1;omega
theorem Right.total (h:Right t ws):sum (shares t ws)=t:=by
 unfold shares share;rw[sum_map_add,top_sum (Nat.le_of_lt h.left_lt)];have:=h.left_eq.1;omega
theorem Right.share_bd (h:Right t ws)(i:Nat):0≤share t ws i∧share t ws i≤t+1:=by
 have:=h.quo0 i;have:=h.quo1 i;unfold share
 split<;>omega
theorem Right.share_zero (h:Right t ws){i:Nat}(hi:i<ws.length)(hz:ws.getD i 0=0):share t ws i=0:=by
 have hr:rest t ws i=0:=by unfold rest;rw[hz];simp
 have hq:quo t ws i=0:=by unfold quo;rw[hz];simp
 unfold share;rw[top_none (s:=sum ws) (Nat.le_of_lt h.left_lt) (fun i _=>h.rest0 i) (fun i _=>h.rest1 i) h.left_eq.2 h.pos hi hr,hq]
 rfl
theorem Right.share_mono (h:Right t ws){i j:Nat}(_hi:i<ws.length)(hj:j<ws.length)(hlt:ws.getD i 0<ws.getD j 0):share t ws i≤share t ws j:=by
 have hp:=h.pos;have hm:t*ws.getD i 0≤t*ws.getD j 0:=Int.mul_le_mul_of_nonneg_left (by omega) h.ht;have hq:quo t ws i≤quo t ws j:=Int.ediv_le_ediv hp hm;unfold share
 rcases Int.lt_or_eq_of_le hq with hq|hq
 ·split<;>split<;>omega
 ·rw[hq]
  by_cases ht:top ws.length (rest t ws) (left t ws) i=true
  ·rw[if_pos ht]
   by_cases htj:top ws.length (rest t ws) (left t ws) j=true
   ·rw[if_pos htj];omega
   ·exfalso
    replace htj:top ws.length (rest t ws) (left t ws) j=false:=by simpa using htj
    unfold top at ht htj;rw[decide_eq_true_eq,List.mem_take_iff_getElem]at ht;obtain⟨a,ha,ea⟩:=ht;obtain⟨b,hb,eb⟩:=List.getElem_of_mem ((order_mem ws.length (rest t ws) j).2 hj);rw[decide_eq_false_iff_not,List.mem_take_iff_getElem]at htj;have hb2:¬b<left t ws:=fun hlt=>htj ⟨b,by omega,eb⟩
    have hbf:=order_lt (n:=ws.length) (r:=rest t ws) (a:=a) (b:=b) (by omega) hb;rw[ea,eb,before_iff]at hbf;have e1:=Int.emod_add_ediv_mul (t*ws.getD i 0) (sum ws);have e2:=Int.emod_add_ediv_mul (t*ws.getD j 0) (sum ws);unfold quo at hq;rw[hq]at e1;unfold rest at hbf
    by_cases ht0:t=0
    ·subst ht0
     have hz:sum ((List.range ws.length).map (quo 0 ws))=0:=by
      rw[sum_map_congr (g:=fun _=>0),sum_map_const]
      ·simp
      ·intro i _;unfold quo;simp
     have hl:=h.left_eq.1;rw[hz]at hl;omega
    ·have hm2:t*ws.getD i 0<t*ws.getD j 0:=Int.mul_lt_mul_of_pos_left hlt (by have:=h.ht;omega)
     omega
  ·rw[if_neg ht];split<;>omega
end Go.Proofs.YtljibgchickcpaaGreatDoor.Sh
namespace Go.Proofs.YtljibgchickcpaaGreatDoor
open Go.RowKit
def dq (t p s:Int):Int:=if s≤t*p / 18446744073709551616 then 1125899906842625 else min (t*p / s) 1125899906842625
def dr (t p s:Int):Int:=if s≤t*p / 18446744073709551616 then 0 else t*p % s
structure Div (t p s:Int):Prop where
 t0:0≤t
 t1:t≤1099511627776
 p0:0≤p
 p1:p≤1099511627776
 s0:1≤s
 s1:s≤70368744177664
theorem Div.prod {t p s:Int}(h:Div t p s):0≤t*p∧t*p≤1208925819614629174706176:=by
 refine⟨Int.mul_nonneg h.t0 h.p0,?_⟩
 have h1:t*p≤1099511627776*p:=Int.mul_le_mul_of_nonneg_right h.t1 h.p0;have:=h.p1;omega
theorem Div.words {t p s:Int}(h:Div t p s):((t.toNat*p.toNat / 18446744073709551616:Nat):Int)=t*p / 18446744073709551616∧((t.toNat*p.toNat % 18446744073709551616:Nat):Int)=t*p % 18446744073709551616:=by
 obtain⟨a,rfl⟩:=Int.eq_ofNat_of_zero_le h.t0;obtain⟨b,rfl⟩:=Int.eq_ofNat_of_zero_le h.p0
 simp
def rq (t p s:Int):Int:=if s≤t*p / 18446744073709551616 then 0 else wrap64 (t*p / s)
def rr (t p s:Int):Int:=if s≤t*p / 18446744073709551616 then 0 else t*p % s
def rk (t p s:Int):Bool:=if s≤t*p / 18446744073709551616 then false else decide (t*p / s<9223372036854775808)
theorem refdivide_any {t p s:Int}(h:Div t p s)(w:World) :
  Calls Tryz.prog 126 #[I O t,I O p,I O s] w fun e w' => e = .returned (.tuple #[I O (rq t p s),I O (rr t p s),.bool (rk t p s)])∧∃n,w' = w.drewN n:=by
 have hm:=fun w=>Calls.same (Tryz.bits_Mul64 t.toNat p.toNat (by have:=h.t1;omega) (by have:=h.p1;omega) w)
 rw[h.words.1,h.words.2,Int.toNat_of_nonneg h.t0,Int.toNat_of_nonneg h.p0]at hm;obtain⟨x0,x1⟩:=h.prod;have t0:=h.t0;have t1:=h.t1;have p0:=h.p0;have p1:=h.p1;have s0:=h.s0;have s1:=h.s1;unfold rq rr rk;clear h;generalize t*p=X at *;have HP:=mh hm;clear hm;have e1:X / 18446744073709551616*18446744073709551616+X % 18446744073709551616=X:=by omega
 have hd:=fun w (hlt:X / 18446744073709551616<s)=>div_any (X / 18446744073709551616) (X % 18446744073709551616) s w (by omega) hlt (by omega) (by omega) (by omega)
 rw[e1]at hd;have l0:0≤X / 18446744073709551616:=by omega
 have l1:X / 18446744073709551616≤65536:=by omega
 have m0:0≤X % 18446744073709551616:=by omega
 have m1:X % 18446744073709551616<18446744073709551616:=by omega
 have q0:0≤X / s:=Int.ediv_nonneg x0 (by omega);have q1:X / 18446744073709551616<s→X / s<18446744073709551616:=fun hlt=>by rw[Int.ediv_lt_iff_lt_mul (by omega)];omega
 have r0:0≤X % s:=Int.emod_nonneg _ (by omega);have r1:X % s<s:=Int.emod_lt_of_pos _ (by omega)
 by_cases hs:s≤X / 18446744073709551616
 ·rw[if_pos hs,if_pos hs,if_pos hs]
  clear hd q1 e1;generalize X / 18446744073709551616=hi at *;generalize X % 18446744073709551616=lo at *
  go_enter Tryz.func126,Tryz.ntmps126
  go_wp2_with (first|(go_at_call 146;refine(HP.out _).mono ?_;rintro e w' ⟨rfl,rfl⟩))
  go_ret3
  exact⟨rfl,0,rfl⟩
 ·rw[if_neg hs,if_neg hs,if_neg hs]
  have hd2:=fun w=>hd w (by omega)
  have HD:=mh hd2;have q1' := q1 (by omega);clear hd hd2 q1 e1;generalize X / 18446744073709551616=hi at *;generalize X % 18446744073709551616=lo at *;generalize X / s=q at *;generalize X % s=r at *
  go_enter Tryz.func126,Tryz.ntmps126
  go_wp2_with (first|(go_at_call 146;refine(HP.out _).mono ?_;rintro e w' ⟨rfl,rfl⟩)|(go_at_call 147;refine(HD.out _).mono ?_;rintro e w2 ⟨rfl,n,rfl⟩))
  go_ret3
  have er:IntKind.i64.wrap r=r:=IntWalk.i64_in _ ⟨by omega,by omega⟩;exact⟨by first|rfl|(simp only[er];rfl),n,rfl⟩
/-! ### Part -/
def part (t p s:Int):Int × Int :=
 if 0≤t∧t≤1099511627776∧0≤p∧p≤1099511627776∧1≤s∧s≤1099511627776 then (if 1125899906842624<t*p / s then (0,2) else (t*p / s,0)) else (0,2)
theorem rq_gt {t p s:Int}(h:Div t p s):(rk t p s=false∨1125899906842624<rq t p s↔1125899906842624<t*p / s)∧(¬1125899906842624<t*p / s→rq t p s=t*p / s∧rk t p s=true):=by
 obtain⟨x0,x1⟩:=h.prod;have s0:=h.s0;unfold rq rk
 by_cases hs:s≤t*p / 18446744073709551616
 ·rw[if_pos hs,if_pos hs]
  have:18446744073709551616≤t*p / s:=by rw[Int.le_ediv_iff_mul_le (by omega)];omega
  simp;omega
 ·rw[if_neg hs,if_neg hs]
  have q0:0≤t*p / s:=Int.ediv_nonneg x0 (by omega);rw[decide_eq_false_iff_not]
  by_cases hk:t*p / s<9223372036854775808
  ·rw[IntWalk.wrap64_in _ ⟨by omega,by omega⟩]
   simp[hk]
  ·simp only[hk,not_false_eq_true,true_or,true_iff]
   omega
theorem As.pay_cases (l:As.Lat)(at_ amount:Int):(As.chkL l=66∧As.payE l at_ amount=66∧As.payV l at_ amount=0)∨(As.chkL l=0∧As.dayB at_=false∧As.payE l at_ amount=9∧As.payV l at_ amount=0) ∨
  (As.chkL l=0∧As.dayB at_=true∧amount<0∧As.payE l at_ amount=67∧As.payV l at_ amount=0)∨(As.chkL l=0∧As.dayB at_=true∧¬amount<0∧68719476736<amount∧As.payE l at_ amount=67∧As.payV l at_ amount=0) ∨
  (As.chkL l=0∧As.dayB at_=true∧¬amount<0∧¬68719476736<amount∧As.payE l at_ amount=0∧As.payV l at_ amount=As.left l at_ amount):=by
 unfold As.payV As.payE
 by_cases hc:As.chkL l=0
 ·rw[if_neg (by omega)]
  cases hd:As.dayB at_
  ·exact .inr (.inl ⟨hc,rfl,rfl,rfl⟩)
  ·rw[if_neg (by decide)]
   by_cases h1:amount<0
   ·rw[if_pos (.inl h1)]
    exact .inr (.inr (.inl ⟨hc,rfl,h1,rfl,rfl⟩))
   by_cases h2:68719476736<amount
   ·rw[if_pos (.inr h2)]
    exact .inr (.inr (.inr (.inl ⟨hc,rfl,h1,h2,rfl,rfl⟩)))
   ·rw[if_neg (by omega)]
    exact .inr (.inr (.inr (.inr ⟨hc,rfl,h1,h2,rfl,rfl⟩)))
 ·have h66:As.chkL l=66:=by unfold As.chkL at hc ⊢;split at hc<;>simp_all
  rw[if_pos hc];exact .inl ⟨h66,rfl,rfl⟩
def As.PayG (v:Int × Int) (w:World) (e:Ending) (w' : World):Prop:=e = .returned (.tuple #[I O v.1,I O v.2])∧Below w.heap.size w w'
def Ints (w:World) (p:Option Addr) (zs:List Int):Prop :=
 zs.length≤maxLen∧(zs = []∨∃b off,p=some ⟨b,off,none⟩∧b<w.heap.size∧∀j,j<zs.length→w.cell? ⟨b,off+j,none⟩=some (I O (zs.getD j 0)))
theorem Ints.nil (w:World)(p:Option Addr):Ints w p []:=⟨by simp,.inl rfl⟩
theorem Ints.below {w w' : World}{p:Option Addr}{zs:List Int}(h:Ints w p zs)(hb:Below w.heap.size w w'):Ints w' p zs:=by
 refine⟨h.1,?_⟩
 rcases h.2 with h|⟨b,off,hp,hl,hc⟩
 ·exact .inl h
 ·exact .inr ⟨b,off,hp,nll hl hb.size,fun j hj=>(hb.cell (p:=⟨b,off+j,none⟩) hl).trans (hc j hj)⟩
theorem Ints.at {w:World}{p:Option Addr}{zs:List Int}(h:Ints w p zs){k:Nat}(hk:k<zs.length):∃b off,p=some ⟨b,off,none⟩∧b<w.heap.size∧w.cell? ⟨b,off+k,none⟩=some (I O (zs.getD k 0)):=by
 rcases h.2 with rfl|⟨b,off,hp,hl,hc⟩
 ·simp at hk
 ·exact⟨b,off,hp,hl,hc k hk⟩
theorem Ints.get {w:World}{p:Option Addr}{zs:List Int}(h:Ints w p zs){k:Nat}(hk:k<zs.length):∃b off x,p=some ⟨b,off,none⟩∧b<w.heap.size∧w.cell? ⟨b,off+k,none⟩=some (I O x)∧Hid (zs.getD k 0=x):=by
 obtain⟨b,off,h1,h2,h3⟩:=h.at hk;exact⟨b,off,_,h1,h2,h3,rfl⟩
theorem Ints.len {w:World}{p:Option Addr}{zs:List Int}(h:Ints w p zs):zs.length≤9223372036854775807:=by
 have:=h.1;unfold maxLen at this;omega
theorem Ints.of_cells {w:World}{b off:Nat}{zs:List Int}(hm:zs.length≤maxLen)(hb:b<w.heap.size)(h:∀j,j<zs.length→w.cell? ⟨b,off+j,none⟩=some (I O (zs.getD j 0))):Ints w (some ⟨b,off,none⟩) zs :=
 ⟨hm,.inr ⟨b,off,rfl,hb,h⟩⟩
theorem getD_map_range (f:Nat→Int)(n j:Nat)(hj:j<n):((List.range n).map f).getD j 0=f j:=by
 simp[List.getD_eq_getElem?_getD,hj]
theorem sum_take_succ {l:List Int}{k:Nat}(hk:k<l.length):Sh.sum (l.take (k+1))=Sh.sum (l.take k)+l.getD k 0:=by
 rw[tsg hk,Sh.sum_snoc,List.getD_eq_getElem?_getD,List.getElem?_eq_getElem hk];rfl
def Row (w:World) (b n:Nat) (f:Nat→Value):Prop:=b<w.heap.size∧∀j,j<n→w.cell? ⟨b,j,none⟩=some (f j)∧w.frozen? ⟨b,j,none⟩=false
theorem Row.below {w w' : World}{b n:Nat}{f:Nat→Value}(h:Row w b n f)(hb:Below w.heap.size w w'):Row w' b n f :=
 ⟨nll h.1 hb.size,fun j hj=>⟨(hb.cell (p:=⟨b,j,none⟩) h.1).trans (h.2 j hj).1,(hb.frozen (p:=⟨b,j,none⟩) h.1).trans (h.2 j hj).2⟩⟩
theorem Row.congr {w:World}{b n:Nat}{f g:Nat→Value}(h:Row w b n f)(e:∀j,j<n→f j=g j):Row w b n g :=
 ⟨h.1,fun j hj=>by rw[← e j hj];exact h.2 j hj⟩
theorem Row.drew {w:World}{b n:Nat}{f:Nat→Value}(h:Row w b n f):Row w.drew b n f:=h
theorem Row.set {w:World}{b n i:Nat}{f:Nat→Value}(h:Row w b n f)(hi:i<n)(v:Value):Row (w.setCell ⟨b,i,none⟩ v) b n fun j=>if j=i then v else f j:=by
 refine⟨by simpa [World.setCell] using h.1,fun j hj=>⟨?_,by rw[World.frozen?_setCell];exact(h.2 j hj).2⟩⟩
 show _=some (if j=i then v else f j)
 by_cases e:j=i
 ·subst e
  rw[if_pos rfl];exact World.cell?_setCell_same _ _ _ (h.2 j hj).1
 ·rw[if_neg e,World.cell?_setCell_other _ _ _ _ (by intro e'; simp only[Addr.mk.injEq]at e'; exact e e'.2.1.symm)]
  exact(h.2 j hj).1
theorem Row.other {w:World}{b c n i:Nat}{f:Nat→Value}(h:Row w b n f)(hne:c≠b)(v:Value):Row (w.setCell ⟨c,i,none⟩ v) b n f:=by
 refine⟨by simpa [World.setCell] using h.1,fun j hj=>⟨?_,by rw[World.frozen?_setCell];exact(h.2 j hj).2⟩⟩
 rw[World.cell?_setCell_other _ _ _ _ (by intro e'; simp only[Addr.mk.injEq]at e'; exact hne e'.1)];exact(h.2 j hj).1
theorem Row.alloc {w:World}{b n:Nat}{f:Nat→Value}(h:Row w b n f)(o:Obj):Row (w.alloc o) b n f :=
 h.below ((brf _ _).alloc mle o)
theorem Row.made (w:World)(n:Nat)(T:TypeId)(z:Value):Row (w.alloc (.cells (madeCells #[z] n) T)) w.heap.size n fun _=>z:=by
 refine⟨by simp,fun j hj=>⟨?_,?_⟩⟩
 ·rw[cwn]
  have:=congrArg (fun l=>l[j]?) (toList_madeCells_one z n)
  simpa [hj] using this
 ·unfold World.frozen?
  rw[heap_alloc_new w _]
  simp
theorem Row.ints {w:World}{b n:Nat}{f:Nat→Int}(h:Row w b n fun j=>I O (f j))(hn:n≤maxLen):Ints w (some ⟨b,0,none⟩) ((List.range n).map f):=by
 refine Ints.of_cells (by simpa using hn) h.1 fun j hj=>?_
 rw[List.length_map,List.length_range]at hj;rw[getD_map_range f n j hj,Nat.zero_add];exact(h.2 j hj).1
def IsRow (k:IntKind) (w:World) (a:Option Addr) (len cap:Nat) (zs:List Int):Prop :=
 (a=none∧len=0∧cap=0∧zs = []) ∨
 ∃x,a=some x∧len≤cap∧cap≤maxLen∧zs.length=cap∧(∀i,i<zs.length→w.cell? (x.add i)=some (.int k (zs.getD i 0)))∧∀n∈zs,(Lit.int k n).wf=true
theorem IsRow.len {k:IntKind}{w:World}{a:Option Addr}{len cap:Nat}{zs:List Int}(h:IsRow k w a len cap zs):len≤zs.length∧zs.length≤maxLen:=by
 rcases h with⟨_,rfl,_,rfl⟩|⟨x,_,h1,h2,h3,_,_⟩
 ·simp
 ·omega
theorem IsRow.wf {k:IntKind}{w:World}{a:Option Addr}{len cap:Nat}{zs:List Int}(h:IsRow k w a len cap zs):∀n∈zs,(Lit.int k n).wf=true:=by
 rcases h with⟨_,_,_,rfl⟩|⟨x,_,_,_,_,_,h6⟩
 ·simp
 ·exact h6
theorem IsRow.get {k:IntKind}{w:World}{a:Option Addr}{len cap:Nat}{zs:List Int}(h:IsRow k w a len cap zs){i:Nat}(hi:i<len) :
  ∃b off x,a=some ⟨b,off,none⟩∧b<w.heap.size∧w.cell? ⟨b,off+i,none⟩=some (.int k x)∧Hid (zs.getD i 0=x):=by
 have hl:=h.len
 rcases h with⟨_,rfl,_,_⟩|⟨x,rfl,h1,h2,h3,h4,_⟩
 ·omega
 ·have h0:=h4 0 (by omega)
  obtain⟨b,off,spot⟩:=x;have hspot:spot=none:=by simpa [Addr.add] using World.cell?_spot h0
  subst hspot;refine⟨b,off,_,rfl,?_,?_,rfl⟩
  ·have:=World.block_lt_of_cell? w _ h0
   simpa [Addr.add] using this
  ·rw[← Go.WideShapes.add_plain]
   exact h4 i (by omega)
theorem IsRow.ints {w:World}{a:Option Addr}{len cap:Nat}{zs:List Int}(h:IsRow .i64 w a len cap zs):Ints w a (zs.take len)∧(zs.take len).length=len:=by
 have hl:=h.len;have he:(zs.take len).length=len:=by rw[List.length_take];omega
 refine⟨⟨by omega,?_⟩,he⟩
 by_cases h0:len=0
 ·subst h0;exact .inl rfl
 ·obtain⟨b,off,x,rfl,hb,hc,_⟩:=h.get (i:=0) (by omega)
  refine .inr ⟨b,off,rfl,hb,fun j hj=>?_⟩
  obtain⟨b', off', y,e,_,hc', hy⟩:=h.get (i:=j) (by omega);simp only[Option.some.injEq,Addr.mk.injEq]at e;obtain⟨rfl,rfl,_⟩:=e;rw[hc', ← hy.out]
  simp[List.getD_eq_getElem?_getD,he▸hj]
/-! ### a slice of ints that the call itself appends to_ -/
def Own (w:World) (T:TypeId) (B:Nat) (v:Value) (xs:List Int):Prop:=w.ownsRow B T 1 v xs.length (xs.map (Value.int .i64))
theorem Own.nil (w:World)(T:TypeId)(B:Nat):Own w T B (.slice none 0 0) []:=World.ownsRow_nil w B T 1
theorem Own.ints {w:World}{T:TypeId}{B:Nat}{v:Value}{xs:List Int}(h:Own w T B v xs):∃p cap,v = .slice p xs.length cap∧Ints w p xs:=by
 rcases h.2 with⟨hv,hn⟩|⟨g,cap,cur,hv,hB,hg,hle,hm,hs,ht⟩
 ·obtain rfl:=List.length_eq_zero_iff.1 hn
  exact⟨none,0,hv,Ints.nil _ _⟩
 ·refine⟨_,cap,hv,Ints.of_cells (by omega) (Array.getElem?_eq_some_iff.1 hg).1 fun j hj=>?_⟩
  have e:cur.toList[j]?=some (Value.int .i64 (xs.getD j 0)):=by
   have:=congrArg (fun l=>l[j]?) ht;simp only[Nat.mul_one,List.getElem?_take,if_pos hj]at this;rw[this]
   simp[List.getD_eq_getElem?_getD,hj]
  rw[Nat.zero_add];simp only[World.cell?,hg]
  simpa using e
theorem Own.append {P:Program}{T TS:TypeId}{i0:TypeInfo}(hi:P.info? T=some i0)(hz0:i0.zero=some (I O 0))(hz1:i0.size=1)(hz2:i0.bytes=8)(ht:P.underlying TS=some (.slice T)){w:World}{ops:Array Oper}{rest:List Oper}{o:Oper}{a:Act}{Q:Exit→Act→World→Prop}(hgd:o.guard=none)(s x:Operand)
  (ho:o.op = .call { callee := .builtin .append,args:=#[s,x],argTypes:=#[TS,TS] }) (B:Nat) (v:Value) (xs:List Int) (y:Int) (hown:Own w T B v xs) (hs:a.eval s=v)
  (hx:a.eval x = .slice (some ⟨w.heap.size,0,none⟩) 1 1) (hB:B≤w.heap.size) (hn:xs.length<1099511627776)
  (h:∀v' w', Own w' T B v' (xs ++ [y])→Below B w w' → wpList P ops Q rest (a.put o.dst v') w'):wpList P ops Q (o::rest) a (w.alloc (.cells #[I O y] T)):=by
 refine wpList_append_own _ hgd s x TS ho B T i0 (I O 0) 1 8 ht hi hz0 hz1 hz2 rfl (by decide) v xs.length (xs.map (Value.int .i64)) hs (World.ownsRow.alloc hown _) ⟨w.heap.size,0,none⟩ 1 1 [I O y] hx rfl (cell_one_new _ _ _) (by simp[Value.oneCell']) (by unfold maxLen;omega) (by omega) (by simp;omega) ?_
 intro v' w' h1 h2 _;refine h v' w' ?_ ?_
 ·unfold Own
  rw[lap,List.map_append];exact h1
 ·refine(((brf B w).alloc hB _).grown h2 (by simp;omega) fun k hk=>?_)
  exact(World.ownsRow.lt hown k hk).1
theorem info_int:(Tryz.prog.info? 3).map (fun i=>(i.zero,i.size,i.bytes))=some (some (I O 0),1,8):=by kernel_rfl
theorem make_ints (n:Nat)(hn:n≤35184372088832)(w:World) :
  (Instr.makeSlice 22 (I O (n:Int)) (I O (n:Int))).run Tryz.prog w = .ok (.slice (some ⟨w.heap.size,0,none⟩) n n) (w.alloc (.cells (madeCells #[I O 0] n) 3)):=by
 obtain⟨i0,hi,hz0,hz1,hz2⟩:=info_parts info_int;have hr:=run_make (P:=Tryz.prog) w 22 3 i0 (I O 0) Tryz.underlying22 hi hz0 .i64 .i64 n n (by omega) (Int.le_refl _) (by rw[hz2];omega) (by omega);simp only[Int.toNat_natCast,hz1,Nat.mul_one]at hr;exact hr
theorem right_div {t:Int}{zs:List Int}(h:Sh.Right t zs)(h64:zs.length≤64)(k:Nat):Div t (zs.getD k 0) (Sh.sum zs)∧dq t (zs.getD k 0) (Sh.sum zs)=Sh.quo t zs k∧dr t (zs.getD k 0) (Sh.sum zs)=Sh.rest t zs k:=by
 have w0:=h.w0 k;have w1:=h.w1 k;have hp:=h.pos;have ht:=h.ht;have ht' := h.ht'; have hS:Sh.sum zs≤1099511627776*zs.length:=Sh.sum_le_len fun x hx=>(h.hw x hx).2
 have hw:zs.getD k 0≤1099511627776:=by
  rw[List.getD_eq_getElem?_getD]
  rcases Nat.lt_or_ge k zs.length with hi|hi
  ·rw[List.getElem?_eq_getElem hi];exact(h.hw _ (List.getElem_mem hi)).2
  ·rw[List.getElem?_eq_none hi];decide
 have hd:Div t (zs.getD k 0) (Sh.sum zs):=⟨ht,ht', w0,hw,by omega,by omega⟩;have hlt:¬Sh.sum zs≤t*zs.getD k 0 / 18446744073709551616:=by
  have h1:t*zs.getD k 0≤t*Sh.sum zs:=Int.mul_le_mul_of_nonneg_left w1 ht;have h2:t*Sh.sum zs≤1099511627776*Sh.sum zs:=Int.mul_le_mul_of_nonneg_right ht' (by omega);omega
 refine⟨hd,?_,?_⟩
 ·unfold dq
  rw[if_neg hlt];have:=h.quo1 k;unfold Sh.quo at *;omega
 ·unfold dr
  rw[if_neg hlt]
  rfl
theorem any_odd {t:Int}{zs:List Int}(h2:Sh.limited t=true)(h3:(zs.any fun x => !Sh.limited x)=false)(hs:Sh.sum zs≠0):Sh.Right t zs:=by
 obtain⟨a,b⟩:=Sh.limited_iff.1 h2;refine⟨a,b,fun x hx=>Sh.limited_iff.1 ?_,hs⟩;rw[List.any_eq_false]at h3
 simpa using h3 x hx
theorem sum_take_bd {zs:List Int}(h1:zs.length≤64)(h3:(zs.any fun x => !Sh.limited x)=false)(k:Nat):0≤Sh.sum (zs.take k)∧Sh.sum (zs.take k)≤70368744177664:=by
 have hw:∀x∈zs,0≤x∧x≤1099511627776:=fun x hx=>Sh.limited_iff.1 (by rw[List.any_eq_false]at h3;simpa using h3 x hx)
 refine⟨Sh.sum_nonneg fun x hx=>(hw x (List.mem_of_mem_take hx)).1,?_⟩
 have:=Sh.sum_le_len (l:=zs.take k) (c:=1099511627776) fun x hx=>(hw x (List.mem_of_mem_take hx)).2
 rw[List.length_take]at this;omega
/-! ### what Shares returns, whatever it is given -/
def shErr (t:Int) (zs:List Int):Int:=if 64<zs.length then 1 else if Sh.limited t=false∨(zs.any fun x => !Sh.limited x)=true then 2 else 0
def shList (t:Int) (zs:List Int):List Int:=if shErr t zs≠0 then [] else if Sh.sum zs=0 then List.replicate zs.length 0 else Sh.shares t zs
def GivesInts (w:World) (l:List Int) (er:Int) (e:Ending) (w' : World):Prop :=
 ∃p cap,e = .returned (.tuple #[.slice p l.length cap,I O er])∧Ints w' p l∧Below w.heap.size w w'
def GivesNew (w:World) (l:List Int) (er:Int) (e:Ending) (w' : World):Prop :=
 ∃p cap,e = .returned (.tuple #[.slice p l.length cap,I O er])∧Ints w' p l∧Below w.heap.size w w' ∧ ∀a,p=some a→w.heap.size≤a.block
theorem GivesNew.ints {w w' : World}{l:List Int}{er:Int}{e:Ending}(h:GivesNew w l er e w'):GivesInts w l er e w' :=by
 obtain⟨p,c,h1,h2,h3, -⟩:=h;exact⟨p,c,h1,h2,h3⟩
theorem Own.intsN {w:World}{T:TypeId}{B:Nat}{v:Value}{xs:List Int}(h:Own w T B v xs):∃p cap,v = .slice p xs.length cap∧Ints w p xs∧∀a,p=some a→B≤a.block:=by
 obtain⟨p,c,rfl,hI⟩:=h.ints;exact⟨p,c,rfl,hI,fun a e=>by subst e;exact(World.ownsRow.lt h a.block rfl).1⟩
theorem refup_any (a b:Int)(w:World) :
  Calls Tryz.prog 132 #[I O a,I O b] w fun e w' => e = .returned (I O (Ex.up a b))∧w=w' :=by
 by_cases hf:Ex.fits a b=true
 ·obtain⟨h1,h2,h3,h4⟩:=Ex.fits_iff.1 hf
  have h:=Ex.down_bd (-a) b;unfold Ex.up
  go_enter Tryz.func132,Tryz.ntmps132
  go_wp2_with (first|(go_at_call 129;refine(refdown_any _ _ _).mono ?_;rintro e w' ⟨rfl,rfl⟩)|(go_at_call 148;refine(proper_any _ _ _).mono ?_;rintro e w' ⟨rfl,rfl⟩))
  go_ret
  exact⟨rfl,rfl⟩
 ·have e:Ex.up a b=0:=by
   unfold Ex.up Ex.down;rw[if_neg]
   ·rfl
   ·rw[Ex.fits_iff]
    rw[Ex.fits_iff]at hf;omega
  replace hf:Ex.fits a b=false:=by simpa using hf
  rw[e]
  go_enter Tryz.func132,Tryz.ntmps132
  go_wp2_with (first|(go_at_call 148;refine(proper_any _ _ _).mono ?_;rintro e w' ⟨rfl,rfl⟩))
  go_ret
  exact⟨rfl,rfl⟩
theorem refpart_any (t p s:Int)(w:World) :
  Calls Tryz.prog 131 #[I O t,I O p,I O s] w fun e w' => e = .returned (.tuple #[I O (part t p s).1,I O (part t p s).2])∧∃n,w' = w.drewN n:=by
 by_cases hin:0≤t∧t≤1099511627776∧0≤p∧p≤1099511627776∧1≤s∧s≤1099511627776
 ·have hp:part t p s=if 1125899906842624<t*p / s then (0,2) else (t*p / s,0):=by unfold part;rw[if_pos hin]
  obtain⟨t0,t1,p0,p1,s0,s1⟩:=hin;have h:Div t p s:=⟨t0,t1,p0,p1,s0,by omega⟩;obtain⟨g1,g2⟩:=rq_gt h;have hd:=refdivide_any h;rw[hp];clear hp h;have HD:=mh hd;clear hd;generalize rq t p s=q at *;generalize rk t p s=k at *;generalize t*p / s=x at *
  by_cases hgt:1125899906842624<x
  ·rw[if_pos hgt]
   have hq:=g1.2 hgt;clear g1 g2
   rcases hq with hq|hq
   ·subst hq
    go_enter Tryz.func131,Tryz.ntmps131
    go_wp2_with (first|(go_at_call 126;refine(HD.out _).mono ?_;rintro e w1 ⟨rfl,n,rfl⟩))
    go_ret2
    exact⟨rfl,n,rfl⟩
   ·cases k
    all_goals
     go_enter Tryz.func131,Tryz.ntmps131
     go_wp2_with (first|(go_at_call 126;refine(HD.out _).mono ?_;rintro e w1 ⟨rfl,n,rfl⟩))
     go_ret2
     exact⟨rfl,n,rfl⟩
  ·rw[if_neg hgt]
   obtain⟨rfl,rfl⟩:=g2 hgt;clear g1 g2
   go_enter Tryz.func131,Tryz.ntmps131
   go_wp2_with (first|(go_at_call 126;refine(HD.out _).mono ?_;rintro e w1 ⟨rfl,n,rfl⟩))
   go_ret2
   exact⟨rfl,n,rfl⟩
 ·have hp:part t p s=(0,2):=by unfold part;rw[if_neg hin]
  rw[hp]
  by_cases c1:t<0
  ·go_enter Tryz.func131,Tryz.ntmps131
   go_wp2
   go_ret2
   exact⟨rfl,0,rfl⟩
  by_cases c2:1099511627776<t
  ·go_enter Tryz.func131,Tryz.ntmps131
   go_wp2
   go_ret2
   exact⟨rfl,0,rfl⟩
  by_cases c3:p<0
  ·go_enter Tryz.func131,Tryz.ntmps131
   go_wp2
   go_ret2
   exact⟨rfl,0,rfl⟩
  by_cases c4:1099511627776<p
  ·go_enter Tryz.func131,Tryz.ntmps131
   go_wp2
   go_ret2
   exact⟨rfl,0,rfl⟩
  by_cases c5:s<1
  ·go_enter Tryz.func131,Tryz.ntmps131
   go_wp2
   go_ret2
   exact⟨rfl,0,rfl⟩
  have c6:1099511627776<s:=by omega
  go_enter Tryz.func131,Tryz.ntmps131
  go_wp2
  go_ret2
  exact⟨rfl,0,rfl⟩
theorem refcheck30_any (d l m:Int)(w:World):Calls Tryz.prog 124 #[.agg #[I O d,I O l,I O m]] w fun e w' => e = .returned (I O (As.chkL ⟨d,l,m⟩))∧Below w.heap.size w w' :=by
 have HA:=mh (balloc mle (brf w.heap.size w) (.cells #[I O d,I O l,I O m] 55));obtain⟨v,ev⟩:∃v,As.chkL ⟨d,l,m⟩=v:=⟨_,rfl⟩;have hv:(d<0∧v=66)∨(¬d<0∧l<d∧v=66)∨(¬d<0∧¬l<d∧36864<l∧v=66)∨(¬d<0∧¬l<d∧¬36864<l∧m<0∧v=66)∨(¬d<0∧¬l<d∧¬36864<l∧¬m<0∧1000<m∧v=66)∨(¬d<0∧¬l<d∧¬36864<l∧¬m<0∧¬1000<m∧v=0):=by
  rw[← ev];unfold As.chkL;simp only
  split<;>omega
 rw[ev];clear ev
 rcases hv with⟨h1,rfl⟩|⟨h1,h2,rfl⟩|⟨h1,h2,h3,rfl⟩|⟨h1,h2,h3,h4,rfl⟩|⟨h1,h2,h3,h4,h5,rfl⟩|⟨h1,h2,h3,h4,h5,rfl⟩
 all_goals
  go_enter Tryz.func124,Tryz.ntmps124
  go_wp2
  go_ret
  exact⟨rfl,HA.out⟩
theorem working30_any (n:Int)(w:World)(h0:0≤n)(h1:n≤36864):Calls Tryz.prog 149 #[I O n] w fun e w' => e = .returned (.bool (decide (n % 7<5)))∧w=w' :=by
 by_cases h:n % 7<5
 ·rw[dqt h]
  go_enter Tryz.func149,Tryz.ntmps149
  go_wp2
  go_ret
  exact⟨rfl,rfl⟩
 ·rw[dqf h]
  go_enter Tryz.func149,Tryz.ntmps149
  go_wp2
  go_ret
  exact⟨rfl,rfl⟩
theorem refdays30_any (a b:Int)(w:World)(a0:0≤a)(a1:a≤36864)(b0:0≤b)(b1:b≤36864):Calls Tryz.prog 130 #[I O a,I O b] w fun e w' => e = .returned (I O (As.days a b))∧w=w' :=by
 have EV:=mh (show As.days a b=if b≤a then 0 else As.bef (b+1) - As.bef (a+1) from by
  unfold As.days As.dayB
  by_cases h:b≤a
  ·rw[if_pos h,if_pos (.inr (.inr h))]
  ·rw[if_neg h,if_neg]
   simp only[Bool.and_eq_false_iff,decide_eq_false_iff_not]
   omega)
 obtain⟨V,eV⟩:∃V,As.days a b=V:=⟨_,rfl⟩;rw[eV]at EV ⊢;clear eV;have WK:=mh (fun (W:World) (n:Int) (h0:0≤n) (h1:n≤36864)=>working30_any n W h0 h1);have hw1:IntKind.i64.wrap (a+1)=a+1:=by rw[IntKind.wrap_i64];omega
 obtain⟨B,eB⟩:∃B,As.bef=B:=⟨_,rfl⟩;have BS:=mh (fun (d:Int) (h:0≤d)=>eB▸As.bef_succ h);have BD:=mh (fun (d:Int) (h:0≤d) (h1:d≤36865)=>show 0≤B d∧B d≤36865 from by rw[← eB];unfold As.bef;omega);rw[eB]at EV;clear eB
 go_enter Tryz.func130,Tryz.ntmps130
 go_wp2
 go_loop [5,6] (fun x i=>∃j:Nat,(j:Int)≤max 0 (b - a)∧i=I O (a+1+j)∧x=I O (B (a+1+j) - B (a+1))) (fun _ i=>(b+1 - intOf i).toNat)
 case atStart=>exact⟨0,by omega,by simp,by simp⟩
 case round =>
  obtain⟨j,hj,rfl,rfl⟩:=hrel;have hj0:(0:Int)≤(j:Int):=inn _
  by_cases hlt:a+1+(j:Int)≤b
  ·have k1:=BD.out (a+1+j) (by omega) (by omega)
   have k2:=BD.out (a+1) (by omega) (by omega);have k3:=BD.out (a+1+j+1) (by omega) (by omega);have ST:=BS.out (a+1+j) (by omega);have W1:=mh (fun W=>WK.out W (a+1+j) (by omega) (by omega));have hw2:IntKind.i64.wrap (a+1+(j:Int)+1)=a+1+j+1:=by rw[IntKind.wrap_i64];omega
   by_cases h5:(a+1+(j:Int)) % 7<5
   ·rw[dqt h5]at W1
    rw[if_pos h5]at ST;have hw3:IntKind.i64.wrap (B (a+1+(j:Int)) - B (a+1)+1)=B (a+1+(j:Int)) - B (a+1)+1:=by rw[IntKind.wrap_i64];omega
    have STH:=mh ST;clear ST k3
    go_wp2_with (go_at_call 149;(with_reducible refine cmo (W1.out _) ?_);rintro e w1 ⟨rfl,rfl⟩)
    go_round
    case rel=>exact⟨j+1,by omega,by congr 1;push_cast;omega,by have:=STH.out;congr 1;push_cast;rw[show a+1+((j:Int)+1)=a+1+j+1 by omega];omega⟩
    case measure=>simp[intOf];omega
   ·rw[dqf h5]at W1
    rw[if_neg h5]at ST;have STH:=mh ST;clear ST k3
    go_wp2_with (go_at_call 149;(with_reducible refine cmo (W1.out _) ?_);rintro e w1 ⟨rfl,rfl⟩)
    go_round
    case rel=>exact⟨j+1,by omega,by congr 1;push_cast;omega,by have:=STH.out;congr 1;push_cast;rw[show a+1+((j:Int)+1)=a+1+j+1 by omega];omega⟩
    case measure=>simp[intOf];omega
  ·go_wp2
   go_ret
   refine⟨ret_i ?_,rfl⟩
   rw[EV.out]
   by_cases h:b≤a
   ·rw[if_pos h,show(j:Int)=0 by omega];simp
   ·rw[if_neg h,show a+1+(j:Int)=b+1 by omega]
theorem refpay30_any (d l m at_ amount:Int)(w:World):Calls Tryz.prog 108 #[.agg #[I O d,I O l,I O m],I O at_,I O amount] w (As.PayG (As.payV ⟨d,l,m⟩ at_ amount,As.payE ⟨d,l,m⟩ at_ amount) w):=by
 have HA:=mh (balloc mle (brf w.heap.size w) (.cells #[I O d,I O l,I O m] 55));have CK:=mh (fun (W:World)=>refcheck30_any d l m W)
 rcases As.pay_cases ⟨d,l,m⟩ at_ amount with⟨h1,hE,hV⟩|⟨h1,h2,hE,hV⟩|⟨h1,h2,h3,hE,hV⟩|⟨h1,h2,h3,h4,hE,hV⟩|⟨h1,h2,h3,h4,hE,hV⟩
 ·rw[hE,hV];rw[h1]at CK
  go_enter Tryz.func108,Tryz.ntmps108
  go_wp2_with (go_at_call 124;(with_reducible refine cmo (CK.out _) ?_);rintro e w1 ⟨rfl,hb1⟩;have HB1:=mh (bstep mle HA.out hb1);have C0:=mcell hb1 0;have C1:=mcell hb1 1;have C2:=mcell hb1 2;have S1:=mh (show w.heap.size<w1.heap.size from nll (by simp) hb1.size);clear hb1)
  go_ret2
  exact⟨rfl,HB1.out⟩
 ·rw[hE,hV];rw[h1]at CK
  have h2' : ¬(0≤at_∧at_≤36864):=by unfold As.dayB at h2;simpa using h2
  clear h2
  by_cases k:at_<0
  ·go_enter Tryz.func108,Tryz.ntmps108
   go_wp2_with (go_at_call 124;(with_reducible refine cmo (CK.out _) ?_);rintro e w1 ⟨rfl,hb1⟩;have HB1:=mh (bstep mle HA.out hb1);have C0:=mcell hb1 0;have C1:=mcell hb1 1;have C2:=mcell hb1 2;have S1:=mh (show w.heap.size<w1.heap.size from nll (by simp) hb1.size);clear hb1)
   go_ret2
   exact⟨rfl,HB1.out⟩
  ·have k2:36864<at_:=by omega
   clear h2'
   go_enter Tryz.func108,Tryz.ntmps108
   go_wp2_with (go_at_call 124;(with_reducible refine cmo (CK.out _) ?_);rintro e w1 ⟨rfl,hb1⟩;have HB1:=mh (bstep mle HA.out hb1);have C0:=mcell hb1 0;have C1:=mcell hb1 1;have C2:=mcell hb1 2;have S1:=mh (show w.heap.size<w1.heap.size from nll (by simp) hb1.size);clear hb1)
   go_ret2
   exact⟨rfl,HB1.out⟩
 all_goals
  have hday:0≤at_∧at_≤36864:=by unfold As.dayB at h2;simpa using h2
  obtain⟨t0,t1⟩:=hday;clear h2
 ·rw[hE,hV];rw[h1]at CK
  go_enter Tryz.func108,Tryz.ntmps108
  go_wp2_with (go_at_call 124;(with_reducible refine cmo (CK.out _) ?_);rintro e w1 ⟨rfl,hb1⟩;have HB1:=mh (bstep mle HA.out hb1);have C0:=mcell hb1 0;have C1:=mcell hb1 1;have C2:=mcell hb1 2;have S1:=mh (show w.heap.size<w1.heap.size from nll (by simp) hb1.size);clear hb1)
  go_ret2
  exact⟨rfl,HB1.out⟩
 ·rw[hE,hV];rw[h1]at CK
  go_enter Tryz.func108,Tryz.ntmps108
  go_wp2_with (go_at_call 124;(with_reducible refine cmo (CK.out _) ?_);rintro e w1 ⟨rfl,hb1⟩;have HB1:=mh (bstep mle HA.out hb1);have C0:=mcell hb1 0;have C1:=mcell hb1 1;have C2:=mcell hb1 2;have S1:=mh (show w.heap.size<w1.heap.size from nll (by simp) hb1.size);clear hb1)
  go_ret2
  exact⟨rfl,HB1.out⟩
 have LO:=As.latOk h1;have k1:=LO.d0;have k2:=LO.d1;have k3:=LO.d2;have k4:=LO.m0;have k5:=LO.m1;simp only at k1 k2 k3 k4 k5;rw[hE,hV];rw[h1]at CK;have DY:=mh (fun (W:World)=>refdays30_any d at_ W k1 (by omega) t0 t1)
 by_cases h5:at_≤d
 ·have EV:=mh (show As.left ⟨d,l,m⟩ at_ amount=amount from by unfold As.left;rw[if_pos h5])
  rw[EV.out]
  go_enter Tryz.func108,Tryz.ntmps108
  go_wp2_with (go_at_call 124;(with_reducible refine cmo (CK.out _) ?_);rintro e w1 ⟨rfl,hb1⟩;have HB1:=mh (bstep mle HA.out hb1);have C0:=mcell hb1 0;have C1:=mcell hb1 1;have C2:=mcell hb1 2;have S1:=mh (show w.heap.size<w1.heap.size from nll (by simp) hb1.size);clear hb1)
  go_ret2
  exact⟨rfl,HB1.out⟩
 by_cases h6:l<at_
 ·have EV:=mh (show As.left ⟨d,l,m⟩ at_ amount=0 from by unfold As.left;rw[if_neg h5,if_pos h6])
  rw[EV.out]
  go_enter Tryz.func108,Tryz.ntmps108
  go_wp2_with (go_at_call 124;(with_reducible refine cmo (CK.out _) ?_);rintro e w1 ⟨rfl,hb1⟩;have HB1:=mh (bstep mle HA.out hb1);have C0:=mcell hb1 0;have C1:=mcell hb1 1;have C2:=mcell hb1 2;have S1:=mh (show w.heap.size<w1.heap.size from nll (by simp) hb1.size);clear hb1)
  go_ret2
  exact⟨rfl,HB1.out⟩
 obtain⟨N,eN⟩:∃N,As.days d at_=N:=⟨_,rfl⟩;have hN:=As.days_bd d at_;rw[eN]at hN DY;have hm0:0≤m*N:=Int.mul_nonneg k4 hN.1;have hm1:m*N≤1000*36864:=Int.mul_le_mul k5 hN.2 hN.1 (by omega);obtain⟨X,eX⟩:∃X,m*N=X:=⟨_,rfl⟩;have EV:=mh (show As.left ⟨d,l,m⟩ at_ amount=amount*max 0 (1000 - X) / 1000 from by unfold As.left;rw[if_neg h5,if_neg h6];simp only;rw[eN,eX]);rw[eX]at hm0 hm1;have hw1:IntKind.i64.wrap (m*N)=X:=by rw[eX,IntKind.wrap_i64];omega
 have hw2:IntKind.i64.wrap (1000 - X)=1000 - X:=by rw[IntKind.wrap_i64];omega
 have a0:0≤amount:=by omega
 obtain⟨V,eV⟩:∃V,As.left ⟨d,l,m⟩ at_ amount=V:=⟨_,rfl⟩;rw[eV]at EV ⊢;clear eV eX eN hN LO hE hV
 by_cases hx:1000 - X≤0
 ·have E0:=mh (show V=0 from by rw[EV.out,show max 0 (1000 - X)=0 by omega];simp)
  rw[E0.out]
  go_enter Tryz.func108,Tryz.ntmps108
  go_wp2_with (go_at_call 124;(with_reducible refine cmo (CK.out _) ?_);rintro e w1 ⟨rfl,hb1⟩;have HB1:=mh (bstep mle HA.out hb1);have C0:=mcell hb1 0;have C1:=mcell hb1 1;have C2:=mcell hb1 2;have S1:=mh (show w.heap.size<w1.heap.size from nll (by simp) hb1.size);clear hb1)
  go_quiet ((go_at_call 130;exact Calls.quiet_of_same (Calls.turn (DY.out _))))
  go_wp2
  go_ret2
  exact⟨rfl,bnext HB1.out HB1.out.size (drewN_below _ _)⟩
 ·have hs:=As.share_bd (a:=amount) (p:=1000 - X) a0 (by omega) (by omega)
  have hp:part amount (1000 - X) 1000=(amount*(1000 - X) / 1000,0):=by
   unfold part;rw[if_pos (by omega),if_neg (by omega)]
  have PA:=mh (fun (W:World)=>(refpart_any amount (1000 - X) 1000 W).mono (R' := fun e w' => e = .returned (.tuple #[I O (part amount (1000 - X) 1000).1,I O (part amount (1000 - X) 1000).2])∧Below W.heap.size W w') (fun e w' h=>⟨h.1,by obtain⟨n,rfl⟩:=h.2;exact drewN_below _ _⟩));rw[hp,show amount*(1000 - X) / 1000=V from by rw[EV.out,show max 0 (1000 - X)=1000 - X by omega]]at PA;clear EV hp hs
  go_enter Tryz.func108,Tryz.ntmps108
  go_wp2_with (go_at_call 124;(with_reducible refine cmo (CK.out _) ?_);rintro e w1 ⟨rfl,hb1⟩;have HB1:=mh (bstep mle HA.out hb1);have C0:=mcell hb1 0;have C1:=mcell hb1 1;have C2:=mcell hb1 2;have S1:=mh (show w.heap.size<w1.heap.size from nll (by simp) hb1.size);clear hb1)
  go_quiet ((go_at_call 130;exact Calls.quiet_of_same (Calls.turn (DY.out _))))
  go_wp2_with (go_at_call 131;(with_reducible refine cmo (PA.out _) ?_);rintro e w3 ⟨rfl,hb3⟩;have HB3:=mh (show Below w.heap.size w w3 from bstep mle (bnext HB1.out HB1.out.size (drewN_below _ _)) hb3);clear hb3)
  go_ret2
  exact⟨rfl,HB3.out⟩
end Go.Proofs.YtljibgchickcpaaGreatDoor
namespace Go.Proofs.YtljibgchickcpaaGreatDoor.Sh
variable {t:Int} {ws:List Int}
theorem Right.share_le (h:Right t ws)(hlt:t<sum ws){i:Nat}(hi:i<ws.length):share t ws i≤ws.getD i 0:=by
 by_cases hz:ws.getD i 0=0
 ·rw[h.share_zero hi hz,hz];exact Int.le_refl _
 ·have w0:=h.w0 i
  have hq:quo t ws i<ws.getD i 0:=by
   unfold quo;rw[Int.ediv_lt_iff_lt_mul h.pos,Int.mul_comm];exact Int.mul_lt_mul_of_pos_left hlt (by omega)
  unfold share
  split<;>omega
theorem shares_getD (t:Int)(ws:List Int)(i:Nat)(hi:i<ws.length):(shares t ws).getD i 0=share t ws i:=by
 unfold shares;exact getD_map_range _ _ _ hi
end Go.Proofs.YtljibgchickcpaaGreatDoor.Sh
