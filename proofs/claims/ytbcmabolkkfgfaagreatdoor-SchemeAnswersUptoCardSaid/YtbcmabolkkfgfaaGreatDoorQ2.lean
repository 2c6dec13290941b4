/- Packed. -/
import Derived.Test.YtbcmabolkkfgfaaGreatDoorQ1
set_option maxRecDepth 100000
set_option maxHeartbeats 4000000
open Go.Value renaming int → I
open Go.IntKind renaming i64 → O
namespace Go.Proofs.YtbcmabolkkfgfaaGreatDoor
open Go.RowKit
def mod (k n:Int):Int:=if n<1 then 0 else k % n
theorem mod_bd (k:Int){n:Int}(h:1≤n):0≤mod k n∧mod k n<n:=by
 unfold mod;rw[if_neg (by omega)];exact⟨Int.emod_nonneg _ (by omega),Int.emod_lt_of_pos _ (by omega)⟩
theorem mod_any (k n:Int)(w:World)(_hk : -9223372036854775808≤k)(hn:n≤9223372036854775807) :
  Calls Tryz.prog 14 #[I O k,I O n] w fun e w' => e = .returned (I O (mod k n))∧w=w' :=by
 unfold mod
 by_cases h:n<1
 ·rw[if_pos h]
  go_enter Tryz.func14,Tryz.ntmps14
  go_wp2
  go_ret
  exact⟨rfl,rfl⟩
 ·rw[if_neg h]
  have h2:=Int.tmod_eq_emod (a:=k) (b:=n);have e1:=Int.emod_lt_of_pos k (show 0<n by omega);have e2:=Int.emod_nonneg k (show n≠0 by omega);have hm:k.tmod n<0∧k.tmod n+n=k % n∨¬k.tmod n<0∧k.tmod n=k % n:=by
   by_cases hc:0≤k∨n ∣ k
   ·rw[if_pos hc]at h2;omega
   ·rw[if_neg hc]at h2
    have:k % n≠0:=fun e=>hc (.inr (Int.dvd_of_emod_eq_zero e))
    omega
  have hz:¬n=0:=by omega
  generalize k % n=q at *;clear h2;have hb : -9223372036854775808≤k.tmod n∧k.tmod n≤9223372036854775807:=by omega
  generalize hT:k.tmod n=t at *
  rcases hm with⟨m1,m2⟩|⟨m1,m2⟩
  ·have M:=mh m2
   clear m2;have mm:IntKind.i64.wrap (t+n)=t+n:=IntWalk.i64_in _ ⟨by omega,by have:=M.out;omega⟩
   go_enter Tryz.func14,Tryz.ntmps14
   go_wp2
   go_ret
   exact⟨ret_int (by rw[← M.out]),rfl⟩
  ·subst m2
   go_enter Tryz.func14,Tryz.ntmps14
   go_wp2
   go_ret
   exact⟨rfl,rfl⟩
structure But (t:Nat) (w w' : World):Prop where
 os:w'.os=w.os
 tape:w'.tape=w.tape
 output:w'.output=w.output
 size:w.heap.size≤w'.heap.size
 block:∀k,k<w.heap.size→k≠t→w'.heap[k]?=w.heap[k]?
theorem But.refl (t:Nat)(w:World):But t w w:=⟨rfl,rfl,rfl,Nat.le_refl _,fun _ _ _=>rfl⟩
theorem But.trans {t:Nat}{a b c:World}(h:But t a b)(k:But t b c):But t a c :=
 ⟨k.os.trans h.os,k.tape.trans h.tape,k.output.trans h.output,Nat.le_trans h.size k.size,fun i hi hn=>(k.block i (nll hi h.size) hn).trans (h.block i hi hn)⟩
theorem But.of_below {t:Nat}{a b:World}(h:Below a.heap.size a b):But t a b:=⟨h.os,h.tape,h.output,h.size,fun i hi _=>h.block i hi⟩
theorem But.below {t B:Nat}{a b:World}(h:But t a b)(hB:B≤t)(hs:B≤a.heap.size):Below B a b:=⟨h.os,h.tape,h.output,h.size,fun i hi=>h.block i (by omega) (by omega)⟩
theorem But.cell {t:Nat}{a b:World}(h:But t a b){p:Addr}(hp:p.block<a.heap.size)(hn:p.block≠t):b.cell? p=a.cell? p:=World.cell?_of_block (w:=a) (h.block p.block hp hn)
theorem Ints.but {w w' : World}{t:Nat}{p:Option Addr}{l:List Int}(h:Ints w p l)(hb:But t w w')(hp:l = []∨∀a,p=some a→a.block≠t):Ints w' p l:=by
 refine⟨h.1,?_⟩
 rcases h.2 with e|⟨b,off,e,hl,hc⟩
 ·exact .inl e
 rcases hp with e0|hp
 ·exact .inl e0
 ·exact .inr ⟨b,off,e,nll hl hb.size,fun j hj=>(hb.cell (p:=⟨b,off+j,none⟩) hl (hp ⟨b,off,none⟩ e)).trans (hc j hj)⟩
structure TapeAt (w:World) (t:Nat) (l:List Int) (n:Nat):Prop where
 row:∃p cap,w.cell? ⟨t,0,none⟩=some (.slice p l.length cap)∧Ints w p l∧(l = []∨∀a,p=some a→a.block<t)
 at_:w.cell? ⟨t,1,none⟩=some (I O (n:Int))
 fz:w.frozen? ⟨t,1,none⟩=false
 le:n≤l.length
 wf:∀x∈l, -9223372036854775808≤x∧x≤9223372036854775807
 lt:t<w.heap.size
 len:l.length≤400
def gives (l:List Int) (at_:Nat) (n:Int):Int:=if l.length≤at_ then 0 else mod (l.getD at_ 0) n
def taken (l:List Int) (at_:Nat):Nat:=if l.length≤at_ then at_ else at_+1
theorem gives_bd (l:List Int)(a:Nat){n:Int}(h:1≤n):0≤gives l a n∧gives l a n<n:=by
 unfold gives
 split
 ·omega
 ·exact mod_bd _ h
theorem TapeAt.belowB {w w' : World}{t B:Nat}{l:List Int}{n:Nat}(h:TapeAt w t l n)(hb:Below B w w')(hB:t<B):TapeAt w' t l n:=by
 obtain⟨p,cap,h1,h2,h3⟩:=h.row;refine⟨⟨p,cap,(hb.cell (p:=⟨t,0,none⟩) hB).trans h1,⟨h2.1,?_⟩,h3⟩,(hb.cell (p:=⟨t,1,none⟩) hB).trans h.at_,(hb.frozen (p:=⟨t,1,none⟩) hB).trans h.fz,h.le,h.wf,nll h.lt hb.size,h.len⟩
 rcases h2.2 with e|⟨b,off,e,hl,hc⟩
 ·exact .inl e
 rcases h3 with e0|h3
 ·exact .inl e0
 ·have hbt:b<t:=h3 ⟨b,off,none⟩ e
  exact .inr ⟨b,off,e,nll hl hb.size,fun j hj=>(hb.cell (p:=⟨b,off+j,none⟩) (by show b<B;omega)).trans (hc j hj)⟩
theorem TapeAt.below {w w' : World}{t:Nat}{l:List Int}{n:Nat}(h:TapeAt w t l n)(hb:Below w.heap.size w w'):TapeAt w' t l n:=h.belowB hb h.lt
theorem getD_bd {l:List Int}(h:∀x∈l, -9223372036854775808≤x∧x≤9223372036854775807)(k:Nat) : -9223372036854775808≤l.getD k 0∧l.getD k 0≤9223372036854775807:=by
 rw[List.getD_eq_getElem?_getD]
 rcases Nat.lt_or_ge k l.length with hi|hi
 ·rw[List.getElem?_eq_getElem hi];exact h _ (List.getElem_mem hi)
 ·rw[List.getElem?_eq_none hi];decide
theorem new_any (a:Option Addr)(len cap:Nat)(z:List Int)(w:World)(h:IsRow .i64 w a len cap z) :
  Calls Tryz.prog 6 #[.slice a len cap] w fun e w' => e = .returned (.pointer (some ⟨w.heap.size,0,none⟩))∧TapeAt w' w.heap.size ((z.take len).take 400) 0∧Below w.heap.size w w' :=by
 obtain⟨hI,hL⟩:=h.ints;have hl:=h.len;have hwf:∀x∈(z.take len).take 400, -9223372036854775808≤x∧x≤9223372036854775807:=fun x hx=>by
  have:=h.wf x (List.mem_of_mem_take (List.mem_of_mem_take hx))
  simpa [Lit.wf,IntKind.min,IntKind.max,IntKind.signed,IntKind.bits] using this
 have hcap:len≤cap:=by rcases h with⟨_,rfl,rfl,_⟩|⟨_,_,h1,_⟩<;>omega
 have hm:len≤9223372036854775807:=by have:=hl.2;unfold maxLen at this;omega
 have hne:∀x,a=some x→x.block<w.heap.size∨len=0:=fun x e=>by
  by_cases h0:len=0
  ·exact .inr h0
  ·obtain⟨b,off,y,e2,hb,_⟩:=h.get (i:=0) (by omega)
   rw[e]at e2
   cases e2
   exact .inl hb
 have hne2:(z.take len).take 400 = []∨∀x,a=some x→x.block<w.heap.size:=by
  by_cases h0:len=0
  ·left;subst h0;simp
  ·right;intro x e;rcases hne x e with h|h<;>omega
 have hT:((z.take len).take 400).length=min len 400:=by rw[List.length_take,hL];omega
 have hI2:Ints w a ((z.take len).take 400):=by
  refine⟨by rw[hT];unfold maxLen;omega,?_⟩
  rcases hI.2 with e|⟨b,off,e,hb,hc⟩
  ·left;rw[e];simp
  ·exact .inr ⟨b,off,e,hb,fun j hj=>by
    rw[hc j (by rw[hT]at hj;rw[hL];omega)];rw[hT]at hj;simp only[List.getD_eq_getElem?_getD,List.getElem?_take]
    rw[if_pos (show j<400 by omega)]⟩
 have HW:=mh hwf;have HI:=mh hI2;have HN:=mh hne2;generalize (z.take len).take 400=l at *;clear hwf hI2 hne2 hne hI hL hl h;have HT:=mh hT;clear hT
 go_enter Tryz.func6,Tryz.ntmps6
 go_wp2
 go_ret
 have e:(min (len:Int) 400).toNat=l.length:=by rw[HT.out];omega
 rw[e];refine⟨rfl,⟨⟨a,cap,by go_simp,HI.out.below ((brf _ _).alloc mle _),HN.out⟩,by go_simp,by go_simp,Nat.zero_le _,HW.out,by simp,by rw[HT.out];omega⟩,by go_grown⟩
theorem next_any (t:Nat)(l:List Int)(k:Nat)(n:Int)(w:World)(h:TapeAt w t l k)(hn:n≤9223372036854775807) :
  Calls Tryz.prog 23 #[.pointer (some ⟨t,0,none⟩),I O n] w fun e w' => e = .returned (I O (gives l k n))∧TapeAt w' t l (taken l k)∧But t w w' :=by
 obtain⟨p,cap,h1,h2,h3⟩:=h.row;have h4:=h.at_;have h5:=h.fz;have h6:=h.len;have hH:=mh h
 by_cases hk:l.length≤k
 ·have e1:gives l k n=0:=by unfold gives;rw[if_pos hk]
  have e2:taken l k=k:=by unfold taken;rw[if_pos hk]
  rw[e1,e2];clear h h3 e1 e2;have h2' := mh h2;clear h2
  go_enter Tryz.func23,Tryz.ntmps23
  go_wp2_with fail
  go_quiet (fail)
  go_wp2
  go_ret
  exact⟨rfl,hH.out.below (drewN_below _ _),But.of_below (drewN_below _ _)⟩
 ·have hkl:k<l.length:=by omega
  obtain⟨b,off,x,rfl,hb,hc,hx⟩:=h2.get hkl;have hbt:b≠t:=by
   rcases h3 with e0|h3
   ·subst e0;simp at hkl
   ·exact Nat.ne_of_lt (h3 _ rfl)
  have e1:gives l k n=mod x n:=by unfold gives;rw[if_neg hk,hx.out]
  have e2:taken l k=k+1:=by unfold taken;rw[if_neg hk]
  have hxb:=getD_bd h.wf k;rw[hx.out]at hxb;have hmod:=fun w=>mod_any x n w hxb.1 hn
  rw[e1,e2];have HM:=mh hmod;have h2' := mh h2;have h3' := mh h3;clear h h2 e1 e2 h3 hmod;have hk0:(0:Int)≤(k:Int):=inn _;have hk1:(k:Int)<(l.length:Int):=by omega
  have hz1:(k:Int)+1 - 1=(k:Int):=by omega
  go_enter Tryz.func23,Tryz.ntmps23
  go_wp2_with fail
  go_quiet (fail)
  go_wp2_with fail
  have g1:((w.drewN nq).setCell ⟨t,1,none⟩ (I O ((k:Int)+1))).cell? ⟨t,0,none⟩=some (.slice (some ⟨b,off,none⟩) l.length cap):=by
   rw[World.cell?_setCell_other _ _ _ _ (by intro e;cases e)];exact h1
  have g2:((w.drewN nq).setCell ⟨t,1,none⟩ (I O ((k:Int)+1))).cell? ⟨t,1,none⟩=some (I O ((k:Int)+1)):=World.cell?_setCell_same _ _ _ (show(w.drewN nq).cell? _=_ from h4);have g3:((w.drewN nq).setCell ⟨t,1,none⟩ (I O ((k:Int)+1))).cell? ⟨b,off+k,none⟩=some (I O x):=by
   exact cell_other (show(w.drewN nq).cell? _=_ from hc) (fun e=>hbt e.symm)
  have g4:((w.drewN nq).setCell ⟨t,1,none⟩ (I O ((k:Int)+1))).frozen? ⟨t,1,none⟩=false:=by rw[World.frozen?_setCell];exact h5
  have g5:But t w ((w.drewN nq).setCell ⟨t,1,none⟩ (I O ((k:Int)+1))) :=
   ⟨rfl,rfl,rfl,by simp[World.setCell,World.drewN],fun i _ hn=>Below.heap_setCell (w.drewN nq) _ _ _ hn⟩
  have G5:=mh g5;clear g5;generalize (w.drewN nq).setCell ⟨t,1,none⟩ (I O ((k:Int)+1))=W at *;clear h1 h4 hc h5
  go_quiet ((go_at_call 14;exact Calls.quiet_of_same (Calls.turn (HM.out _))))
  go_wp2
  go_ret
  refine⟨rfl,?_,G5.out.trans (But.of_below (drewN_below _ _))⟩
  have hbb:∀a,some (⟨b,off,none⟩:Addr)=some a→a.block≠t:=fun a e=>by cases e;exact hbt
  have hb3:=h3'.out;exact⟨⟨_,cap,g1,(h2'.out.but G5.out (.inr hbb)).below (drewN_below _ _),hb3⟩,g2,g4,by omega,hH.out.wf,nll hH.out.lt G5.out.size,h6⟩
theorem range_any (t:Nat)(l:List Int)(k:Nat)(low high:Int)(w:World)(h:TapeAt w t l k)(h0 : -1125899906842624≤low)(h1:low≤high)(h2:high≤1125899906842624) :
  Calls Tryz.prog 27 #[.pointer (some ⟨t,0,none⟩),I O low,I O high] w fun e w' => e = .returned (I O (low+gives l k (high - low+1)))∧TapeAt w' t l (taken l k)∧But t w w' :=by
 have hn:=next_any t l k (high - low+1) w h (by omega);obtain⟨g1,g2⟩:=gives_bd l k (n:=high - low+1) (by omega);have HN:=mh hn;clear hn h;generalize gives l k (high - low+1)=g at *
 go_enter Tryz.func27,Tryz.ntmps27
 go_wp2_with (first|(go_at_call 23;refine(HN.out).mono ?_;rintro e w1 ⟨rfl,ht,hb⟩))
 go_ret
 exact⟨rfl,ht,hb⟩
/-! ### some numbers, one after the other -/
structure Shape (α:Type) where
 k:Nat
 cells:α→List Value
 len:∀a,(cells a).length=k
 pos:0<k
 one:∀a,∀u∈cells a,u.oneCell' = true
variable {α:Type} (S:Shape α)
def Shape.flat (L:List α):List Value:=L.flatMap S.cells
theorem Shape.flat_len (L:List α):(S.flat L).length=L.length*S.k:=by
 induction L with
 | nil=>simp[Shape.flat]
 | cons a L ih =>
   show(S.cells a++S.flat L).length=_
   rw[lap,ih,S.len,List.length_cons,Nat.add_mul];omega
theorem Shape.flat_append (L M:List α):S.flat (L++M)=S.flat L++S.flat M:=by unfold Shape.flat;rw[List.flatMap_append]
theorem Shape.flat_single (a:α):S.flat [a]=S.cells a:=by simp[Shape.flat]
theorem Shape.flat_at (L:List α)(j:Nat)(hj:j<L.length)(i:Nat)(hi:i<S.k):(S.flat L)[j*S.k+i]?=(S.cells L[j])[i]?:=by
 induction L generalizing j with
 | nil=>simp at hj
 | cons a L ih =>
   show(S.cells a++S.flat L)[j*S.k+i]?=_
   match j with
   | 0=>rw[List.getElem?_append_left (by rw[S.len];omega)];simp
   | j+1 =>
     rw[List.getElem?_append_right (by rw[S.len,Nat.add_mul];omega),S.len];have e:(j+1)*S.k+i - S.k=j*S.k+i:=by rw[Nat.add_mul];omega
     rw[e,ih j (by simpa using hj)]
     simp
theorem Shape.flat_set (L:List α)(j:Nat)(hj:j<L.length)(i:Nat)(hi:i<S.k)(u:Value)(a:α)(h:S.cells a=(S.cells L[j]).set i u):(S.flat L).set (j*S.k+i) u=S.flat (L.set j a):=by
 induction L generalizing j with
 | nil=>simp at hj
 | cons b L ih =>
   match j with
   | 0 =>
     show(S.cells b++S.flat L).set (0*S.k+i) u=S.cells a++S.flat L
     rw[List.set_append_left _ _ (by rw[S.len];omega),h]
     simp
   | j+1 =>
     show(S.cells b++S.flat L).set ((j+1)*S.k+i) u=S.cells b++S.flat (L.set j a)
     rw[List.set_append_right _ _ (by rw[S.len,Nat.add_mul];omega),S.len];have e:(j+1)*S.k+i - S.k=j*S.k+i:=by rw[Nat.add_mul];omega
     rw[e,ih j (by simpa using hj) (by simpa using h)]
theorem Shape.flat_ones (L:List α):∀u∈S.flat L,u.oneCell' = true:=fun u hu=>by
 obtain⟨a, -,ha⟩:=List.mem_flatMap.1 hu;exact S.one a u ha
theorem Shape.flat_cut (L:List α)(m:Nat)(h:m≤L.length):S.flat L=S.flat (L.take m)++S.flat (L.drop m)∧(S.flat (L.take m)).length=m*S.k :=
 ⟨by rw[← S.flat_append,List.take_append_drop],by rw[S.flat_len,List.length_take,Nat.min_eq_left h]⟩
theorem Shape.flat_take (L:List α)(m:Nat):S.flat (L.take m)=(S.flat L).take (m*S.k):=by
 by_cases h:m≤L.length
 ·obtain⟨e,l⟩:=S.flat_cut L m h
  rw[e,← l,List.take_left]
 ·rw[List.take_of_length_le (by omega:L.length≤m),List.take_of_length_le (by rw[S.flat_len];exact Nat.mul_le_mul_right _ (by omega))]
theorem Shape.flat_drop (L:List α)(m:Nat)(h:m≤L.length):S.flat (L.drop m)=(S.flat L).drop (m*S.k):=by
 obtain⟨e,l⟩:=S.flat_cut L m h;rw[e,← l,List.drop_left]
def Recs (w:World) (p:Option Addr) (L:List α):Prop :=
 L.length≤maxLen∧(L = []∨∃b off,p=some ⟨b,off,none⟩∧b<w.heap.size∧∀n u,(S.flat L)[n]?=some u→w.cell? ⟨b,off+n,none⟩=some u)
variable {S}
theorem Recs.nil (w:World)(p:Option Addr):Recs S w p []:=⟨by simp,.inl rfl⟩
theorem Recs.below {w w' : World}{p:Option Addr}{L:List α}(h:Recs S w p L)(hb:Below w.heap.size w w'):Recs S w' p L:=by
 refine⟨h.1,?_⟩
 rcases h.2 with h|⟨b,off,hp,hl,hc⟩
 ·exact .inl h
 ·exact .inr ⟨b,off,hp,nll hl hb.size,fun n u hu=>(hb.cell (p:=⟨b,off+n,none⟩) hl).trans (hc n u hu)⟩
theorem Recs.drew {w:World}{p:Option Addr}{L:List α}(h:Recs S w p L):Recs S w.drew p L:=h.below ⟨rfl,rfl,rfl,Nat.le_refl _,fun _ _=>rfl⟩
theorem Recs.len {w:World}{p:Option Addr}{L:List α}(h:Recs S w p L):L.length≤9223372036854775807:=by
 have:=h.1;unfold maxLen at this;omega
theorem Recs.at {w:World}{p:Option Addr}{L:List α}(h:Recs S w p L){k:Nat}(hk:k<L.length) :
  ∃b off,p=some ⟨b,off,none⟩∧b<w.heap.size∧∀i u,(S.cells L[k])[i]?=some u→w.cell? ⟨b,off+k*S.k+i,none⟩=some u:=by
 rcases h.2 with rfl|⟨b,off,hp,hl,hc⟩
 ·simp at hk
 ·refine⟨b,off,hp,hl,fun i u hu=>?_⟩
  have hi:i<S.k:=by rw[← S.len L[k]];exact(List.getElem?_eq_some_iff.1 hu).1
  rw[Nat.add_assoc];exact hc _ _ ((S.flat_at L k hk i hi).trans hu)
theorem Recs.take {w:World}{p:Option Addr}{L:List α}(h:Recs S w p L)(m:Nat):Recs S w p (L.take m):=by
 refine⟨by rw[List.length_take];have:=h.1;omega,?_⟩
 rcases h.2 with rfl|⟨b,off,hp,hl,hc⟩
 ·exact .inl (by simp)
 ·exact .inr ⟨b,off,hp,hl,fun n u hu=>hc n u (by
   rw[S.flat_take,List.getElem?_take]at hu
   split at hu
   ·exact hu
   ·cases hu)⟩
theorem Recs.drop {w:World}{b off:Nat}{L:List α}(h:Recs S w (some ⟨b,off,none⟩) L)(m:Nat):Recs S w (some ⟨b,off+m*S.k,none⟩) (L.drop m):=by
 refine⟨by rw[List.length_drop];have:=h.1;omega,?_⟩
 rcases h.2 with rfl|⟨b', off', hp,hl,hc⟩
 ·exact .inl (by simp)
 ·cases hp
  by_cases hm:m≤L.length
  ·refine .inr ⟨b,off+m*S.k,rfl,hl,fun n u hu=>?_⟩
   rw[S.flat_drop L m hm,List.getElem?_drop]at hu;rw[Nat.add_assoc];exact hc _ _ hu
  ·exact .inl (List.drop_of_length_le (by omega))
theorem Recs.of_cells {w:World}{b off:Nat}{L:List α}(hm:L.length≤maxLen)(hb:b<w.heap.size)(h:∀n u,(S.flat L)[n]?=some u→w.cell? ⟨b,off+n,none⟩=some u):Recs S w (some ⟨b,off,none⟩) L :=
 ⟨hm,.inr ⟨b,off,rfl,hb,h⟩⟩
theorem Recs.lit (w:World)(T:TypeId)(L:List α)(hl:L.length≤maxLen):Recs S (w.alloc (.cells (S.flat L).toArray T)) (some ⟨w.heap.size,0,none⟩) L:=by
 refine Recs.of_cells hl (by simp) fun j u hu=>?_
 rw[Nat.zero_add,cwn]
 simpa using hu
/-! ### rows of the call's own -/
variable (S)
def OwnR (w:World) (T:TypeId) (B:Nat) (v:Value) (L:List α):Prop:=w.ownsRow B T S.k v L.length (S.flat L)
structure Elem (P:Program) (T TS:TypeId) (bytes:Nat):Prop where
 ex:∃i0 z,P.info? T=some i0∧i0.zero=some z∧i0.size=S.k∧i0.bytes=bytes∧z.cells.size=S.k
 ts:P.underlying TS=some (.slice T)
variable {S}
theorem OwnR.nil (w:World)(T:TypeId)(B:Nat):OwnR S w T B (.slice none 0 0) []:=World.ownsRow_nil w B T S.k
theorem OwnR.blocks {w w' : World}{T:TypeId}{B:Nat}{v:Value}{L:List α}(h:OwnR S w T B v L)(hb:∀g,v.ownBlock=some g→B≤g→g<w.heap.size→w'.heap[g]?=w.heap[g]?):OwnR S w' T B v L:=by
 refine⟨h.1,?_⟩
 rcases h.2 with hn|⟨g,cap,cur,h1,h2,h3,h4⟩
 ·exact .inl hn
 ·exact .inr ⟨g,cap,cur,h1,h2,(hb g (by rw[h1];rfl) h2 (Array.getElem?_eq_some_iff.1 h3).1).trans h3,h4⟩
theorem OwnR.below {w w' : World}{T:TypeId}{B:Nat}{v:Value}{L:List α}(h:OwnR S w T B v L)(hb:Below w.heap.size w w'):OwnR S w' T B v L:=h.blocks fun g _ _ hg=>hb.block g hg
theorem OwnR.drew {w:World}{T:TypeId}{B:Nat}{v:Value}{L:List α}(h:OwnR S w T B v L):OwnR S w.drew T B v L:=h.blocks fun _ _ _ _=>rfl
theorem OwnR.mono {w:World}{T:TypeId}{B B' : Nat}{v:Value}{L:List α}(h:OwnR S w T B v L)(hB:B' ≤ B):OwnR S w T B' v L:=by
 refine⟨h.1,?_⟩
 rcases h.2 with hn|⟨g,cap,cur,h1,h2,h3,h4⟩
 ·exact .inl hn
 ·exact .inr ⟨g,cap,cur,h1,by omega,h3,h4⟩
theorem OwnR.lt {w:World}{T:TypeId}{B:Nat}{v:Value}{L:List α}(h:OwnR S w T B v L){g:Nat}(hg:v.ownBlock=some g):B≤g∧g<w.heap.size:=World.ownsRow.lt h g hg
theorem OwnR.cut {w:World}{T:TypeId}{B:Nat}{v:Value}{L:List α}(h:OwnR S w T B v L){n:Nat}(hn:L.length=n) :
  ∃p c,v = .slice p n c∧(p=none→c=0∧n=0)∧(∀x,p=some x→x.off=0∧x.spot=none∧B≤x.block∧x.block<w.heap.size)∧n≤c∧c≤maxLen∧Recs S w p L:=by
 subst hn
 rcases h.2 with⟨hv,hn⟩|⟨g,cap,cur,hv,hB,hg,hle,hm,hs,ht⟩
 ·obtain rfl:=List.length_eq_zero_iff.1 hn
  exact⟨none,0,hv,fun _=>⟨rfl,rfl⟩,fun x hx=>(by cases hx),(by simp),(by unfold maxLen;omega),Recs.nil _ _⟩
 ·refine⟨_,cap,hv,fun h=>by (cases h),fun x hx=>?_,hle,hm,⟨by omega,.inr ⟨g,0,rfl,(Array.getElem?_eq_some_iff.1 hg).1,fun j u hu=>?_⟩⟩⟩
  ·cases hx
   exact⟨rfl,rfl,hB,(Array.getElem?_eq_some_iff.1 hg).1⟩
  ·have hj:j<L.length*S.k:=by rw[← S.flat_len];exact(List.getElem?_eq_some_iff.1 hu).1
   have:=congrArg (fun l=>l[j]?) ht;simp only[List.getElem?_take,if_pos hj]at this;rw[hu]at this;rw[Nat.zero_add];simp only[World.cell?,hg]
   simpa using this
theorem OwnR.at {w:World}{T:TypeId}{B c n:Nat}{p:Option Addr}{L:List α}(h:OwnR S w T B (.slice p n c) L){k:Nat}(hk:k<L.length) :
  ∃g,p=some ⟨g,0,none⟩∧n=L.length∧B≤g∧g<w.heap.size∧(∀i u,(S.cells L[k])[i]?=some u→w.cell? ⟨g,k*S.k+i,none⟩=some u)∧(∀i,w.frozen? ⟨g,i,none⟩=false) ∧
    (∀i u a,i<S.k→S.cells a=(S.cells L[k]).set i u→OwnR S (w.setCell ⟨g,k*S.k+i,none⟩ u) T B (.slice p n c) (L.set k a)):=by
 have hl:=World.ownsRow.lt h
 rcases h.2 with⟨hv,hn⟩|⟨g,cap,cur,hv,hB,hg,hle,hm,hs,ht⟩
 ·omega
 ·simp only[Value.slice.injEq]at hv
  obtain⟨rfl,rfl,rfl⟩:=hv;have h' : w.ownsRow B T S.k (.slice (some ⟨g,0,none⟩) L.length c) L.length (S.flat L):=h;refine⟨g,rfl,rfl,hB,(hl g rfl).2,fun i u hu=>?_,fun i=>h'.frozenAt _,fun i u a hi ha=>?_⟩
  ·have hi:i<S.k:=by rw[← S.len L[k]];exact(List.getElem?_eq_some_iff.1 hu).1
   have hb:k*S.k+i<L.length*S.k:=by
    have:=Nat.mul_le_mul_right S.k (show k+1≤L.length by omega);rw[Nat.add_mul]at this;omega
   rw[h'.cellAt _ hb,S.flat_at L k hk i hi];exact hu
  ·have:=h'.stored (k*S.k+i) u
   rw[S.flat_set L k hk i hi u a ha]at this;unfold OwnR;rw[List.length_set];exact this.1
structure Appends (w w' : World) (B H:Nat) (v v' : Value):Prop where
 below:Below B w w'
 size:w.heap.size≤w'.heap.size
 far:∀k,k<w.heap.size→v.ownBlock≠some k→w'.heap[k]?=w.heap[k]?
 block:v'.ownBlock=v.ownBlock∨v'.ownBlock=some H
theorem OwnR.append {P:Program}{T TS:TypeId}{bytes:Nat}(he:Elem S P T TS bytes){w:World}{ops:Array Oper}{rest:List Oper}{o:Oper}{a:Act}{Q:Exit→Act→World→Prop}(hgd:o.guard=none)(s x:Operand)
  (ho:o.op = .call { callee := .builtin .append,args:=#[s,x],argTypes:=#[TS,TS] }) (B:Nat) (v:Value) (L:List α) (y:α) (cs:Array Value) (hcs:cs.toList=S.cells y) (hown:OwnR S w T B v L) (hs:a.eval s=v)
  (hx:a.eval x = .slice (some ⟨w.heap.size,0,none⟩) 1 1) (hB:B≤w.heap.size) (hn:L.length<1073741824) (hby:bytes≤65536)
  (h:∀v' w', OwnR S w' T B v' (L ++ [y])→Appends w w' B (w.heap.size+1) v v' → wpList P ops Q rest (a.put o.dst v') w'):wpList P ops Q (o::rest) a (w.alloc (.cells cs T)):=by
 obtain⟨i0,z,e1,e2,e3,e4,e5⟩:=he.ex;have hb2:(L.length+1)*bytes≤1073741824*65536:=Nat.mul_le_mul (by omega) hby;refine wpList_append_own_at _ hgd s x TS ho B T i0 z S.k bytes he.ts e1 e2 e3 e4 e5 S.pos v L.length (S.flat L) hs (World.ownsRow.alloc hown _) ⟨w.heap.size,0,none⟩ 1 1 (S.cells y) hx (by rw[S.len];omega) ?_ (S.one y) (by unfold maxLen;omega) (by omega) (by simp;omega) ?_
 ·intro j u hu
  rw[Go.WideShapes.add_plain,Nat.zero_add,cwn];rw[← hcs]at hu
  simpa using hu
 intro v' w' h1 h2 _ h4;refine h v' w' ?_ ⟨(((brf B w).alloc hB _).grown h2 (by simp;omega) fun k hk=>(World.ownsRow.lt hown k hk).1),?_,fun k hk hne=>?_,by rw[World.size_alloc]at h4;exact h4⟩
 ·unfold OwnR
  rw[lap,S.flat_append,S.flat_single];exact h1
 ·have:=h2.size
  rw[World.size_alloc]at this;omega
 ·rw[h2.block k (by rw[World.size_alloc];omega) (fun e=>hne e.symm)]
  exact(((brf w.heap.size w).alloc mle _).block k hk)
theorem OwnR.appendAll {P:Program}{T TS:TypeId}{bytes:Nat}(he:Elem S P T TS bytes){w:World}{ops:Array Oper}{rest:List Oper}{o:Oper}{a:Act}{Q:Exit→Act→World→Prop}(hgd:o.guard=none)(s x:Operand)
  (ho:o.op = .call { callee := .builtin .append,args:=#[s,x],argTypes:=#[TS,TS] }) (B:Nat) (v:Value) (L M:List α) (p:Option Addr) (c n:Nat) (hM:M.length=n) (hown:OwnR S w T B v L) (hsrc:Recs S w p M) (hp:p=none→c=0) (hs:a.eval s=v)
  (hx:a.eval x = .slice p n c) (hB:B≤w.heap.size) (hn:L.length+n<1073741824) (hby:bytes≤65536)
  (h:∀v' w', OwnR S w' T B v' (L++M)→Appends w w' B w.heap.size v v' → wpList P ops Q rest (a.put o.dst v') w'):wpList P ops Q (o::rest) a w:=by
 subst hM;obtain⟨i0,z,e1,e2,e3,e4,e5⟩:=he.ex;have hb2:(L.length+M.length)*bytes≤1073741824*65536:=Nat.mul_le_mul (by omega) hby
 cases p with
 | none =>
   obtain rfl:=hp rfl;have hM:M = []:=by
    rcases hsrc.2 with h|⟨b,off,h,_⟩
    ·exact h
    ·cases h
   subst hM;exact wpList_append_own_none hgd s x TS ho B T i0 S.k he.ts e1 v L.length (S.flat L) hs hown hx (h v w (by rw[List.append_nil];exact hown) ⟨brf _ _,Nat.le_refl _,fun _ _ _=>rfl,.inl rfl⟩)
 | some ad =>
   refine wpList_append_own_at _ hgd s x TS ho B T i0 z S.k bytes he.ts e1 e2 e3 e4 e5 S.pos v L.length (S.flat L) hs hown ad M.length c (S.flat M) hx (S.flat_len M) ?_ (S.flat_ones M) (by unfold maxLen;omega) (by omega) hB ?_
   ·intro j u hu
    rcases hsrc.2 with rfl|⟨b', off', hp', hl,hc⟩
    ·simp[Shape.flat]at hu
    ·cases hp'
     rw[Go.WideShapes.add_plain];exact hc j u hu
   intro v' w' h1 h2 _ h4;refine h v' w' ?_ ⟨(brf B w).grown h2 hB fun k hk=>(World.ownsRow.lt hown k hk).1,h2.size,fun k hk hne=>h2.block k hk (fun e=>hne e.symm),h4⟩;unfold OwnR;rw[lap,S.flat_append];exact h1
theorem OwnR.setOther {w:World}{T:TypeId}{B:Nat}{v:Value}{L:List α}(h:OwnR S w T B v L){b i:Nat}(hne:v.ownBlock≠some b)(u:Value):OwnR S (w.setCell ⟨b,i,none⟩ u) T B v L :=
 h.blocks fun g hg _ _=>by
  have:b≠g:=fun e=>hne (by rw[hg,e])
  simp[World.setCell,Array.getElem?_modify,this]
end Go.Proofs.YtbcmabolkkfgfaaGreatDoor
namespace Go.Proofs.YtbcmabolkkfgfaaGreatDoor
open Go.RowKit
theorem one_any (t:Nat)(l:List Int)(k:Nat)(n:Int)(w:World)(h:TapeAt w t l k)(h1:1≤n)(hn:n≤9223372036854775807) :
  Calls Tryz.prog 26 #[.pointer (some ⟨t,0,none⟩),I O n] w fun e w' => e = .returned (.bool (gives l k n==n - 1))∧TapeAt w' t l (taken l k)∧But t w w' :=by
 have hn1:=next_any t l k n w h hn;obtain⟨g1,g2⟩:=gives_bd l k h1;have HN:=mh hn1;clear hn1 h;generalize gives l k n=g at *
 go_enter Tryz.func26,Tryz.ntmps26
 go_wp2_with (first|(go_at_call 23;refine(HN.out).mono ?_;rintro e w1 ⟨rfl,ht,hb⟩))
 go_ret
 exact⟨rfl,ht,hb⟩
theorem But.stp {t:Nat}{a b c:World}(h:But t a b)(hb:Below a.heap.size b c):But t a c :=
 ⟨hb.os.trans h.os,hb.tape.trans h.tape,hb.output.trans h.output,Nat.le_trans h.size hb.size,fun i hi hn=>(hb.block i hi).trans (h.block i hi hn)⟩
theorem But.stpB {t B:Nat}{a b c:World}(h:But t a b)(hb:Below B b c)(hB:a.heap.size≤B):But t a c :=
 ⟨hb.os.trans h.os,hb.tape.trans h.tape,hb.output.trans h.output,Nat.le_trans h.size hb.size,fun k hk hne=>(hb.block k (nll hk hB)).trans (h.block k hk hne)⟩
theorem But.nxt {t:Nat}{a b c:World}(h:But t a b)(hb:Below b.heap.size b c):But t a c:=h.stp (hb.mono h.size)
theorem But.drew {t:Nat}{a b:World}(h:But t a b):But t a b.drew:=h.stp ((brf _ _).drew)
theorem OwnR.but {α:Type}{S:Shape α}{w w' : World}{T:TypeId}{B t:Nat}{v:Value}{L:List α}(h:OwnR S w T B v L)(hb:But t w w')(hB:t<B):OwnR S w' T B v L :=
 h.blocks fun g _ hg hl=>hb.block g hl (by omega)
open Te
structure RT where
 op:Int
 num:Int
 more:Int
 p:Option Addr
 n:Nat
 c:Nat
def tCells (r:RT):List Value := [I O r.op,I O r.num,I O r.more,.slice r.p r.n r.c]
def ST:Shape RT:=⟨4,tCells,fun _=>rfl,by decide,fun a u hu=>by
 simp only[tCells,List.mem_cons,List.not_mem_nil,or_false]at hu
 rcases hu with rfl|rfl|rfl|rfl<;>rfl⟩
structure RT.Is (r:RT) (t:Tm):Prop where
 op:r.op=t.op
 num:r.num=t.num
 more:r.more=t.more
 n:r.n=t.kids.length
 c:r.n≤r.c
 z:r.p=none→r.c=0
def TmsAt (Q:Nat→Prop) (w:World):Nat→Option Addr→List Tm→Prop
 | 0,_,K=>K = []
 | d+1,p,K=>∃R:List RT,R.length=K.length∧Recs ST w p R∧(∀a,p=some a→K = []∨Q a.block)∧∀k (h:k<R.length) (h' : k<K.length),RT.Is R[k] K[k]∧TmsAt Q w d R[k].p K[k].kids
theorem TmsAt.nil (Q:Nat→Prop)(w:World)(d:Nat)(p:Option Addr):TmsAt Q w d p []:=by
 cases d with
 | zero=>rfl
 | succ d=>exact⟨[],rfl,Recs.nil _ _,fun _ _ => .inl rfl,fun k h=>by simp at h⟩
theorem Recs.blocks {α:Type}{S:Shape α}{w w' : World}{p:Option Addr}{L:List α}(h:Recs S w p L)(hs:w.heap.size≤w'.heap.size)(hp:∀a,p=some a→L = []∨w'.heap[a.block]?=w.heap[a.block]?):Recs S w' p L:=by
 refine⟨h.1,?_⟩
 rcases h.2 with e|⟨b,off,e,hl,hc⟩
 ·exact .inl e
 rcases hp _ e with e0|hp
 ·exact .inl e0
 ·exact .inr ⟨b,off,e,nll hl hs,fun n u hu=>(World.cell?_of_block (w:=w) (a:=⟨b,off+n,none⟩) hp).trans (hc n u hu)⟩
theorem Recs.lt {α:Type}{S:Shape α}{w:World}{p:Option Addr}{L:List α}(h:Recs S w p L)(h0:L ≠ []){a:Addr}(e:p=some a):a.block<w.heap.size:=by
 rcases h.2 with e0|⟨b,off,e1,hl,_⟩
 ·exact absurd e0 h0
 ·rw[e]at e1;cases e1;exact hl
theorem TmsAt.change {Q Q' : Nat→Prop}{w w' : World}(hs:w.heap.size≤w'.heap.size)(hb:∀b,Q b→b<w.heap.size→w'.heap[b]?=w.heap[b]?∧Q' b):∀{d:Nat} {p:Option Addr} {K:List Tm},TmsAt Q w d p K→TmsAt Q' w' d p K
 | 0,_,_,h=>h
 | d+1,p,K,⟨R,h1,h2,h3,h4⟩=>by
   have hR:K = []↔R = []:=by rw[← List.length_eq_zero_iff,← List.length_eq_zero_iff,h1]
   have key:∀a,p=some a→K = []∨(w'.heap[a.block]?=w.heap[a.block]?∧Q' a.block):=fun a e=>by
    rcases h3 a e with h|h
    ·exact .inl h
    ·by_cases h0:K = []
     ·exact .inl h0
     ·exact .inr (hb _ h (h2.lt (fun e=>h0 (hR.2 e)) e))
   refine⟨R,h1,h2.blocks hs fun a e=>(key a e).imp hR.1 And.left,fun a e=>(key a e).imp id And.right,fun k hk hk' => ⟨(h4 k hk hk').1,TmsAt.change hs hb (h4 k hk hk').2⟩⟩
theorem TmsAt.below {Q:Nat→Prop}{w w' : World}{d:Nat}{p:Option Addr}{K:List Tm}(h:TmsAt Q w d p K)(hb:Below w.heap.size w w'):TmsAt Q w' d p K:=h.change hb.size fun b q hl=>⟨hb.block b hl,q⟩
theorem TmsAt.deeper {Q:Nat→Prop}{w:World}:∀{d:Nat} {p:Option Addr} {K:List Tm},TmsAt Q w d p K→TmsAt Q w (d+1) p K
 | 0,_,_,h=>by cases (show _ = [] from h);exact TmsAt.nil _ _ _ _
 | _+1,_,_,⟨R,h1,h2,h3,h4⟩=>⟨R,h1,h2,h3,fun k hk hk' => ⟨(h4 k hk hk').1,(h4 k hk hk').2.deeper⟩⟩
theorem TmsAt.deep {Q:Nat→Prop}{w:World}{d e:Nat}{p:Option Addr}{K:List Tm}(h:TmsAt Q w d p K)(he:d≤e):TmsAt Q w e p K:=by
 induction he with
 | refl=>exact h
 | step _ ih=>exact ih.deeper
structure TCells (w:World) (b o:Nat) (r:RT):Prop where
 c0:w.cell? ⟨b,o,none⟩=some (I O r.op)
 c1:w.cell? ⟨b,o+1,none⟩=some (I O r.num)
 c2:w.cell? ⟨b,o+2,none⟩=some (I O r.more)
 c3:w.cell? ⟨b,o+3,none⟩=some (.slice r.p r.n r.c)
structure TV (Q:Nat→Prop) (w:World) (d:Nat) (r:RT) (t:Tm):Prop where
 is:r.Is t
 at_:TmsAt Q w d r.p t.kids
theorem TV.below {Q:Nat→Prop}{w w' : World}{d:Nat}{r:RT}{t:Tm}(h:TV Q w d r t)(hb:Below w.heap.size w w'):TV Q w' d r t:=⟨h.is,h.at_.below hb⟩
theorem TV.change {Q Q' : Nat→Prop}{w w' : World}{d:Nat}{r:RT}{t:Tm}(h:TV Q w d r t)(hs:w.heap.size≤w'.heap.size)(hb:∀b,Q b→b<w.heap.size→w'.heap[b]?=w.heap[b]?∧Q' b):TV Q' w' d r t:=⟨h.is,h.at_.change hs hb⟩
theorem TV.deep {Q:Nat→Prop}{w:World}{d e:Nat}{r:RT}{t:Tm}(h:TV Q w d r t)(he:d≤e):TV Q w e r t:=⟨h.is,h.at_.deep he⟩
theorem TmsAt.len {Q:Nat→Prop}{w:World}{d:Nat}{p:Option Addr}{K:List Tm}(h:TmsAt Q w d p K):K.length≤9223372036854775807:=by
 cases d with
 | zero=>cases (show _ = [] from h);simp
 | succ d=>obtain⟨R,h1,h2, -⟩:=h;rw[← h1];exact h2.len
theorem TmsAt.kid {Q:Nat→Prop}{w:World}{d:Nat}{p:Option Addr}{K:List Tm}(h:TmsAt Q w d p K){k:Nat}(hk:k<K.length) :
  ∃e b off r,d=e+1∧p=some ⟨b,off,none⟩∧b<w.heap.size∧TCells w b (off+k*4) r∧TV Q w e r K[k]:=by
 cases d with
 | zero=>cases (show _ = [] from h);simp at hk
 | succ d =>
   obtain⟨R,h1,h2,h3,h4⟩:=h;have hk' : k<R.length:=by omega
   obtain⟨b,off,e,hl,hc⟩:=h2.at hk'; exact⟨d,b,off,R[k],rfl,e,hl,⟨hc 0 _ rfl,hc 1 _ rfl,hc 2 _ rfl,hc 3 _ rfl⟩,(h4 k hk' hk).1,(h4 k hk' hk).2⟩
open Sc
def bCells (b:Brk):List Value := [I O b.up,I O b.rate]
def SBk:Shape Brk:=⟨2,bCells,fun _=>rfl,by decide,fun a u hu=>by
 simp only[bCells,List.mem_cons,List.not_mem_nil,or_false]at hu
 rcases hu with rfl|rfl<;>rfl⟩
theorem info_brk:(Tryz.prog.info? 54).map (fun i=>(i.zero,i.size,i.bytes))=some (some (.agg #[I O 0,I O 0]),2,16):=by kernel_rfl
theorem el_brk:Elem SBk Tryz.prog 54 29 16:=by
 obtain⟨i0,h1,h2,h3,h4⟩:=info_parts info_brk;exact⟨⟨i0,_,h1,h2,h3,h4,rfl⟩,Tryz.underlying29⟩
theorem SBk_at {w:World}{p:Option Addr}{L:List Brk}(h:Recs SBk w p L){k:Nat}(hk:k<L.length) :
  ∃b off x,p=some ⟨b,off,none⟩∧b<w.heap.size∧w.cell? ⟨b,off+k*2,none⟩=some (I O x.up)∧w.cell? ⟨b,off+k*2+1,none⟩=some (I O x.rate)∧Hid (L[k]=x):=by
 obtain⟨b,off,hp,hb,hc⟩:=h.at hk;exact⟨b,off,_,hp,hb,hc 0 _ rfl,hc 1 _ rfl,rfl⟩
structure RSx where
 num:Int
 nm:ByteArray
 t:RT
 bp:Option Addr
 bn:Nat
 bc:Nat
 least:Int
 ex:Int
 needs:Bool
def sCells (r:RSx):List Value := [I O r.num,.string r.nm,I O r.t.op,I O r.t.num,I O r.t.more,.slice r.t.p r.t.n r.t.c,.slice r.bp r.bn r.bc,I O r.least,I O r.ex,.bool r.needs]
def SSc:Shape RSx:=⟨10,sCells,fun _=>rfl,by decide,fun a u hu=>by
 simp only[sCells,List.mem_cons,List.not_mem_nil,or_false]at hu
 rcases hu with rfl|rfl|rfl|rfl|rfl|rfl|rfl|rfl|rfl|rfl<;>rfl⟩
theorem info_sch:(Tryz.prog.info? 31).map (fun i=>(i.zero,i.size,i.bytes))=some (some (.agg #[I O 0,.string ByteArray.empty,I O 0,I O 0,I O 0,.slice none 0 0,.slice none 0 0,I O 0,I O 0,.bool false]),10,120):=by kernel_rfl
theorem el_sch:Elem SSc Tryz.prog 31 22 120:=by
 obtain⟨i0,h1,h2,h3,h4⟩:=info_parts info_sch;exact⟨⟨i0,_,h1,h2,h3,h4,rfl⟩,Tryz.underlying22⟩
structure SV (Q:Nat→Prop) (w:World) (d:Nat) (r:RSx) (s:Sch):Prop where
 num:r.num=s.num
 nm:r.nm=s.nm
 t:TV Q w d r.t s.cond
 br:Recs SBk w r.bp s.br
 bn:r.bn=s.br.length
 bc:r.bn≤r.bc
 bz:r.bp=none→r.bc=0
 bq:∀a,r.bp=some a→s.br = []∨Q a.block
 least:r.least=s.least
 ex:r.ex=s.ex
 needs:r.needs=s.needs
theorem SV.change {Q Q' : Nat→Prop}{w w' : World}{d:Nat}{r:RSx}{s:Sch}(h:SV Q w d r s)(hs:w.heap.size≤w'.heap.size)(hb:∀b,Q b→b<w.heap.size→w'.heap[b]?=w.heap[b]?∧Q' b):SV Q' w' d r s:=by
 have key:∀a,r.bp=some a→s.br = []∨(w'.heap[a.block]?=w.heap[a.block]?∧Q' a.block):=fun a e=>by
  rcases h.bq a e with h1|h1
  ·exact .inl h1
  ·by_cases h0:s.br = []
   ·exact .inl h0
   ·exact .inr (hb _ h1 (h.br.lt h0 e))
 exact⟨h.num,h.nm,h.t.change hs hb,h.br.blocks hs fun a e=>(key a e).imp id And.left,h.bn,h.bc,h.bz,fun a e=>(key a e).imp id And.right,h.least,h.ex,h.needs⟩
theorem SV.below {Q:Nat→Prop}{w w' : World}{d:Nat}{r:RSx}{s:Sch}(h:SV Q w d r s)(hb:Below w.heap.size w w'):SV Q w' d r s:=h.change hb.size fun b q hl=>⟨hb.block b hl,q⟩
theorem SV.deep {Q:Nat→Prop}{w:World}{d e:Nat}{r:RSx}{s:Sch}(h:SV Q w d r s)(he:d≤e):SV Q w e r s:=⟨h.num,h.nm,h.t.deep he,h.br,h.bn,h.bc,h.bz,h.bq,h.least,h.ex,h.needs⟩
structure SsAt (Q:Nat→Prop) (w:World) (d:Nat) (p:Option Addr) (L:List Sch):Prop where
 ex:∃R:List RSx,R.length=L.length∧Recs SSc w p R∧∀k (h:k<R.length) (h' : k<L.length),SV Q w d R[k] L[k]
 q:∀a,p=some a→L = []∨Q a.block
theorem SsAt.nil (Q:Nat→Prop)(w:World)(d:Nat)(p:Option Addr):SsAt Q w d p []:=⟨⟨[],rfl,Recs.nil _ _,fun k h=>by simp at h⟩,fun _ _ => .inl rfl⟩
theorem SsAt.change {Q Q' : Nat→Prop}{w w' : World}{d:Nat}{p:Option Addr}{L:List Sch}(h:SsAt Q w d p L)(hs:w.heap.size≤w'.heap.size)(hb:∀b,Q b→b<w.heap.size→w'.heap[b]?=w.heap[b]?∧Q' b):SsAt Q' w' d p L:=by
 obtain⟨⟨R,h1,h2,h3⟩,h4⟩:=h;have hR:L = []↔R = []:=by rw[← List.length_eq_zero_iff,← List.length_eq_zero_iff,h1]
 have key:∀a,p=some a→L = []∨(w'.heap[a.block]?=w.heap[a.block]?∧Q' a.block):=fun a e=>by
  rcases h4 a e with h|h
  ·exact .inl h
  ·by_cases h0:L = []
   ·exact .inl h0
   ·exact .inr (hb _ h (h2.lt (fun e=>h0 (hR.2 e)) e))
 exact⟨⟨R,h1,h2.blocks hs fun a e=>(key a e).imp hR.1 And.left,fun k a b=>(h3 k a b).change hs hb⟩,fun a e=>(key a e).imp id And.right⟩
theorem SsAt.below {Q:Nat→Prop}{w w' : World}{d:Nat}{p:Option Addr}{L:List Sch}(h:SsAt Q w d p L)(hb:Below w.heap.size w w'):SsAt Q w' d p L:=h.change hb.size fun b q hl=>⟨hb.block b hl,q⟩
theorem SsAt.len {Q:Nat→Prop}{w:World}{d:Nat}{p:Option Addr}{L:List Sch}(h:SsAt Q w d p L):L.length≤9223372036854775807:=by
 obtain⟨⟨R,h1,h2, -⟩, -⟩:=h;rw[← h1];exact h2.len
structure SCells (w:World) (b o:Nat) (r:RSx):Prop where
 c0:w.cell? ⟨b,o,none⟩=some (I O r.num)
 c1:w.cell? ⟨b,o+1,none⟩=some (.string r.nm)
 c2:w.cell? ⟨b,o+2,none⟩=some (I O r.t.op)
 c3:w.cell? ⟨b,o+3,none⟩=some (I O r.t.num)
 c4:w.cell? ⟨b,o+4,none⟩=some (I O r.t.more)
 c5:w.cell? ⟨b,o+5,none⟩=some (.slice r.t.p r.t.n r.t.c)
 c6:w.cell? ⟨b,o+6,none⟩=some (.slice r.bp r.bn r.bc)
 c7:w.cell? ⟨b,o+7,none⟩=some (I O r.least)
 c8:w.cell? ⟨b,o+8,none⟩=some (I O r.ex)
 c9:w.cell? ⟨b,o+9,none⟩=some (.bool r.needs)
theorem SCells.below {w w' : World}{b o B:Nat}{r:RSx}(h:SCells w b o r)(hb:Below B w w')(hB:b<B):SCells w' b o r :=
 ⟨(hb.cell (p:=⟨b,o,none⟩) hB).trans h.c0,(hb.cell (p:=⟨b,o+1,none⟩) hB).trans h.c1,(hb.cell (p:=⟨b,o+2,none⟩) hB).trans h.c2,(hb.cell (p:=⟨b,o+3,none⟩) hB).trans h.c3,(hb.cell (p:=⟨b,o+4,none⟩) hB).trans h.c4,
   (hb.cell (p:=⟨b,o+5,none⟩) hB).trans h.c5,(hb.cell (p:=⟨b,o+6,none⟩) hB).trans h.c6,(hb.cell (p:=⟨b,o+7,none⟩) hB).trans h.c7,(hb.cell (p:=⟨b,o+8,none⟩) hB).trans h.c8,(hb.cell (p:=⟨b,o+9,none⟩) hB).trans h.c9⟩
theorem SCells.box (w:World)(r:RSx)(T:TypeId):SCells (w.alloc (.cells #[I O r.num,.string r.nm,I O r.t.op,I O r.t.num,I O r.t.more,.slice r.t.p r.t.n r.t.c,.slice r.bp r.bn r.bc,I O r.least,I O r.ex,.bool r.needs] T)) w.heap.size 0 r :=
 ⟨cwn _ _ _ 0,cwn _ _ _ 1,cwn _ _ _ 2,cwn _ _ _ 3,cwn _ _ _ 4,cwn _ _ _ 5,cwn _ _ _ 6,cwn _ _ _ 7,cwn _ _ _ 8,cwn _ _ _ 9⟩
theorem SsAt.at {Q:Nat→Prop}{w:World}{d:Nat}{p:Option Addr}{L:List Sch}(h:SsAt Q w d p L){k:Nat}(hk:k<L.length) :
  ∃b off r,p=some ⟨b,off,none⟩∧b<w.heap.size∧SCells w b (off+k*10) r∧SV Q w d r L[k]:=by
 obtain⟨⟨R,h1,h2,h3⟩, -⟩:=h;have hk' : k<R.length:=by omega
 obtain⟨b,off,e,hl,hc⟩:=h2.at hk'; exact⟨b,off,R[k],e,hl,⟨hc 0 _ rfl,hc 1 _ rfl,hc 2 _ rfl,hc 3 _ rfl,hc 4 _ rfl,hc 5 _ rfl,hc 6 _ rfl,hc 7 _ rfl,hc 8 _ rfl,hc 9 _ rfl⟩,h3 k hk' hk⟩
theorem SsAt.take {Q:Nat→Prop}{w:World}{d:Nat}{p:Option Addr}{L:List Sch}(h:SsAt Q w d p L)(m:Nat):SsAt Q w d p (L.take m):=by
 obtain⟨⟨R,h1,h2,h3⟩,h4⟩:=h;refine⟨⟨R.take m,by rw[List.length_take,List.length_take,h1],h2.take m,fun k a b=>?_⟩,fun a e=>?_⟩
 ·rw[List.getElem_take,List.getElem_take]
  exact h3 k _ _
 ·rcases h4 a e with h|h
  ·exact .inl (by rw[h];simp)
  ·exact .inr h
theorem bdrew' {B:Nat}{w w1:World}(h:Below B w.drew w1):Below B w w1:=⟨h.os,h.tape,h.output,h.size,h.block⟩
theorem bstep {B:Nat}{w w1 w2:World}(hs:B≤w.heap.size)(h:Below B w w1)(h2:Below w1.heap.size w1 w2):Below B w w2:=bnext h (Nat.le_trans hs h.size) h2
theorem balloc {B:Nat}{w w1:World}(hs:B≤w.heap.size)(h:Below B w w1)(o:Obj):Below B w (w1.alloc o):=h.alloc (Nat.le_trans hs h.size) o
theorem bd_i64 {n:Int}(h:(Lit.int .i64 n).wf=true) : -9223372036854775808≤n∧n≤9223372036854775807:=by simpa [Lit.wf,IntKind.min,IntKind.max,IntKind.signed,IntKind.bits] using h
def IntG (v:Int) (w:World) (e:Ending) (w' : World):Prop:=e = .returned (I O v)∧Below w.heap.size w w'
def cntJ (K:List Tm) (j:Nat) (most:Int):Int:=if 1+(countL (K.take j):Int)≤most then 1+(countL (K.take j):Int) else most+1
def cntV (t:Tm) (most:Int):Int:=if (count t:Int)≤most then (count t:Int) else most+1
theorem countL_append (A B:List Tm):countL (A++B)=countL A+countL B:=by
 induction A with
 | nil=>simp[countL]
 | cons a r ih=>rw[List.cons_append,countL,countL,ih];omega
theorem countL_succ (K:List Tm)(j:Nat)(h:j<K.length):countL (K.take (j+1))=countL (K.take j)+count K[j]:=by
 rw[tsg h,countL_append,countL,countL];omega
theorem countL_take (K:List Tm)(j:Nat):countL (K.take j)≤countL K:=by
 have:=countL_append (K.take j) (K.drop j);rw[List.take_append_drop]at this;omega
theorem count_kids (t:Tm):count t=1+countL t.kids:=by cases t;rw[count];rfl
theorem cntJ_zero (K:List Tm)(most:Int)(h:0≤most):cntJ K 0 most=1:=by
 unfold cntJ;simp only[List.take_zero,countL];split<;>omega
theorem cntJ_succ (K:List Tm)(j:Nat)(h:j<K.length)(most:Int)(h2:cntJ K j most≤most):cntJ K j most+cntV K[j] (most - cntJ K j most)=cntJ K (j+1) most:=by
 unfold cntJ cntV at *;rw[countL_succ K j h];have:=count_pos K[j]
 split at h2
 ·split<;>split<;>omega
 ·omega
theorem cntJ_end (t:Tm)(most:Int):cntJ t.kids t.kids.length most=cntV t most:=by
 unfold cntJ cntV;rw[List.take_length,count_kids];simp
theorem cntJ_over (t:Tm)(j:Nat)(most:Int)(h:most<cntJ t.kids j most):cntJ t.kids j most=cntV t most:=by
 unfold cntJ cntV at *;rw[count_kids];have:=countL_take t.kids j
 split at h
 ·omega
 ·rw[if_neg (by omega),if_neg (by omega)]
theorem cntJ_bd (K:List Tm)(j:Nat)(most:Int)(h:0≤most):1≤cntJ K j most∧cntJ K j most≤most+1:=by
 unfold cntJ;split<;>omega
theorem cntV_bd (t:Tm)(most:Int)(h:0≤most):1≤cntV t most∧cntV t most≤most+1:=by
 have:=count_pos t;unfold cntV;split<;>omega
theorem count16_any {Q:Nat→Prop}:∀(d:Nat) (r:RT) (t:Tm) (most:Int) (w:World),TV Q w d r t→0≤most→most≤1000000 →
  Calls Tryz.prog 88 #[.agg #[I O r.op,I O r.num,I O r.more,.slice r.p r.n r.c],I O most] w (IntG (cntV t most) w):=by
 intro d
 induction d using Nat.strongRecOn with
 | _ d ih =>
 intro r t most w h h0 h1;obtain⟨ro,rn,rm,rp,rl,rc⟩:=r;obtain⟨to_,tn,tm,K⟩:=t;have hat:TmsAt Q w d rp K:=h.at_;have hlen:rl=K.length:=h.is.n;have hn:=hat.len;simp only;subst hlen;have HT:=mh hat;have IH:=mh ih;have CE:=mh (show cntJ K K.length most=cntV (.mk to_ tn tm K) most from cntJ_end (.mk to_ tn tm K) most);have CO:=mh (fun j=>show most<cntJ K j most→cntJ K j most=cntV (.mk to_ tn tm K) most from cntJ_over (.mk to_ tn tm K) j most);have CB:=mh (fun j=>cntJ_bd K j most h0);have CS:=mh (fun j h=>cntJ_succ K j h most);have CZ:=mh (cntJ_zero K most h0);obtain⟨V,eV⟩:∃V,cntV (.mk to_ tn tm K) most=V:=⟨_,rfl⟩;rw[eV]at CE CO ⊢;clear h ih eV hat
 go_enter Tryz.func88,Tryz.ntmps88
 go_wp2
 go_loopw [5,11] (fun n i wr=>∃j:Nat,j≤K.length∧i=I O j∧n=I O (cntJ K j most)∧Below w.heap.size w wr) (fun _ i _=>K.length - (intOf i).toNat)
 case atStart=>exact⟨0,Nat.zero_le _,rfl,by rw[CZ.out],(brf _ _).alloc mle _⟩
 case round =>
  clear CZ;obtain⟨wo,rfl⟩:∃wo:World,wo=wr:=⟨_,rfl⟩;obtain⟨j,hj,rfl,rfl,hb⟩:=hrel;have HB:=mh hb;have hj0:(0:Int)≤(j:Int):=inn _;obtain⟨b1,b2⟩:=CB.out j
  by_cases hlt:j<K.length
  ·have hj1:(j:Int)<(K.length:Int):=by omega
   obtain⟨e,b,off,k,rfl,rfl,hbl,hc,hv⟩:=(HT.out.below hb).kid hlt;have CSj:=mh (CS.out j hlt);have COj:=mh (CO.out j);obtain⟨N,eN⟩:∃N,cntJ K j most=N:=⟨_,rfl⟩;rw[eN]at CSj COj b1 b2 ⊢;obtain⟨c0,c1,c2,c3⟩:=hc;clear eN hb;have HK:=mh (fun (W:World) (hW:Below wo.heap.size wo W)=>IH.out e (by omega) k K[j] (most - N) W (hv.below hW));clear hv
   by_cases hm:most<N
   ·have HF:=mh (COj.out hm)
    go_wp2
    go_ret
    exact⟨ret_int HF.out,balloc mle HB.out _⟩
   ·have HK2:=mh (HK.out _ ((brf _ _).alloc mle (.cells #[I O k.op,I O k.num,I O k.more,.slice k.p k.n k.c] 28)) (by omega) (by omega))
    have hvb:=cntV_bd K[j] (most - N) (by omega);have CSK:=mh (CSj.out (by omega));obtain⟨V2,eV2⟩:∃V2,cntV K[j] (most - N)=V2:=⟨_,rfl⟩;rw[eV2]at hvb CSK HK2;clear eV2 HK
    go_wp2_with (first|(go_at_call 88;(with_reducible refine cmo HK2.out ?_);rintro e w1 ⟨rfl,hb1⟩))
    go_roundw
    case rel=>exact⟨j+1,by omega,by go_num,by rw[CSK.out],bstep mle (balloc mle HB.out _) hb1⟩
    case measure=>simp[intOf];omega
  ·obtain rfl:j=K.length:=by omega
   rw[CE.out];clear hb b1 b2
   go_wp2
   go_ret
   exact⟨rfl,HB.out⟩
end Go.Proofs.YtbcmabolkkfgfaaGreatDoor
