/- Packed. -/
import Derived.Test.YtefcalgjnkigjaaGreatL5
set_option maxRecDepth 100000
set_option maxHeartbeats 1000000
open Go.Value renaming int → I
open Go.IntKind renaming i64 → O
namespace Go.Proofs.YtefcalgjnkigjaaGreat
open Go.RowKit
def qR (w:World) (p:Option Addr) (zs:List Int):Prop :=
 zs.length≤maxLen∧(zs = []∨∃b off,p=some ⟨b,off,none⟩∧b<w.heap.size∧∀j,j<zs.length→w.cell? ⟨b,off+j,none⟩=some (I O (zs.getD j 0)))
theorem qR.nil (w:World)(p:Option Addr):qR w p []:=⟨by simp,.inl rfl⟩
theorem qR.below {w w' : World}{p:Option Addr}{zs:List Int}(h:qR w p zs)(hb:Below w.heap.size w w'):qR w' p zs:=by
 refine⟨h.1,?_⟩
 rcases h.2 with h|⟨b,off,hp,hl,hc⟩
 ·exact .inl h
 ·exact .inr ⟨b,off,hp,nll hl hb.size,fun j hj=>(hb.cell (p:=⟨b,off+j,none⟩) hl).trans (hc j hj)⟩
theorem qR.at {w:World}{p:Option Addr}{zs:List Int}(h:qR w p zs){k:Nat}(hk:k<zs.length):∃b off,p=some ⟨b,off,none⟩∧b<w.heap.size∧w.cell? ⟨b,off+k,none⟩=some (I O (zs.getD k 0)):=by
 rcases h.2 with rfl|⟨b,off,hp,hl,hc⟩
 ·simp at hk
 ·exact⟨b,off,hp,hl,hc k hk⟩
theorem qR.get {w:World}{p:Option Addr}{zs:List Int}(h:qR w p zs){k:Nat}(hk:k<zs.length):∃b off x,p=some ⟨b,off,none⟩∧b<w.heap.size∧w.cell? ⟨b,off+k,none⟩=some (I O x)∧Hid (zs.getD k 0=x):=by
 obtain⟨b,off,h1,h2,h3⟩:=h.at hk;exact⟨b,off,_,h1,h2,h3,rfl⟩
theorem qR.len {w:World}{p:Option Addr}{zs:List Int}(h:qR w p zs):zs.length≤9223372036854775807:=by
 have:=h.1;unfold maxLen at this;omega
theorem qR.of_cells {w:World}{b off:Nat}{zs:List Int}(hm:zs.length≤maxLen)(hb:b<w.heap.size)(h:∀j,j<zs.length→w.cell? ⟨b,off+j,none⟩=some (I O (zs.getD j 0))):qR w (some ⟨b,off,none⟩) zs :=
 ⟨hm,.inr ⟨b,off,rfl,hb,h⟩⟩
theorem uT (f:Nat→Int)(n j:Nat)(hj:j<n):((List.range n).map f).getD j 0=f j:=by
 simp[List.getD_eq_getElem?_getD,hj]
theorem zG {l:List Int}{k:Nat}(hk:k<l.length):Sh.sum (l.take (k+1))=Sh.sum (l.take k)+l.getD k 0:=by
 rw[tsg hk,Sh.sum_snoc,List.getD_eq_getElem?_getD,List.getElem?_eq_getElem hk];rfl
theorem qR.lit (w:World)(T:TypeId)(l:List Int)(hl:l.length≤maxLen):qR (w.alloc (.cells (l.map (Value.int .i64)).toArray T)) (some ⟨w.heap.size,0,none⟩) l:=by
 refine qR.of_cells hl (by simp) fun j hj=>?_
 rw[Nat.zero_add,cwn]
 simp[List.getD_eq_getElem?_getD,hj]
def Row (w:World) (b n:Nat) (f:Nat→Value):Prop:=b<w.heap.size∧∀j,j<n→w.cell? ⟨b,j,none⟩=some (f j)∧w.frozen? ⟨b,j,none⟩=false
theorem Row.below {w w' : World}{b n:Nat}{f:Nat→Value}(h:Row w b n f)(hb:Below w.heap.size w w'):Row w' b n f :=
 ⟨nll h.1 hb.size,fun j hj=>⟨(hb.cell (p:=⟨b,j,none⟩) h.1).trans (h.2 j hj).1,(hb.frozen (p:=⟨b,j,none⟩) h.1).trans (h.2 j hj).2⟩⟩
theorem Row.congr {w:World}{b n:Nat}{f g:Nat→Value}(h:Row w b n f)(e:∀j,j<n→f j=g j):Row w b n g :=
 ⟨h.1,fun j hj=>by rw[← e j hj];exact h.2 j hj⟩
theorem Row.drew {w:World}{b n:Nat}{f:Nat→Value}(h:Row w b n f):Row w.drew b n f:=h
theorem Row.set {w:World}{b n i:Nat}{f:Nat→Value}(h:Row w b n f)(hi:i<n)(v:Value):Row (w.setCell ⟨b,i,none⟩ v) b n fun j=>if j=i then v else f j:=by
 refine⟨by simpa [World.setCell] using h.1,fun j hj=>⟨?_,by rw[World.frozen?_setCell];exact(h.2 j hj).2⟩⟩
 show _=some (if j=i then v else f j)
 by_cases e:j=i
 ·subst e
  rw[if_pos rfl];exact World.cell?_setCell_same _ _ _ (h.2 j hj).1
 ·rw[if_neg e,World.cell?_setCell_other _ _ _ _ (by intro e'; simp only[Addr.mk.injEq]at e'; exact e e'.2.1.symm)]
  exact(h.2 j hj).1
theorem Row.other {w:World}{b c n i:Nat}{f:Nat→Value}(h:Row w b n f)(hne:c≠b)(v:Value):Row (w.setCell ⟨c,i,none⟩ v) b n f:=by
 refine⟨by simpa [World.setCell] using h.1,fun j hj=>⟨?_,by rw[World.frozen?_setCell];exact(h.2 j hj).2⟩⟩
 rw[World.cell?_setCell_other _ _ _ _ (by intro e'; simp only[Addr.mk.injEq]at e'; exact hne e'.1)];exact(h.2 j hj).1
theorem Row.alloc {w:World}{b n:Nat}{f:Nat→Value}(h:Row w b n f)(o:Obj):Row (w.alloc o) b n f :=
 h.below ((brf _ _).alloc mle o)
theorem Row.made (w:World)(n:Nat)(T:TypeId)(z:Value):Row (w.alloc (.cells (madeCells #[z] n) T)) w.heap.size n fun _=>z:=by
 refine⟨by simp,fun j hj=>⟨?_,?_⟩⟩
 ·rw[cwn]
  have:=congrArg (fun l=>l[j]?) (toList_madeCells_one z n)
  simpa [hj] using this
 ·unfold World.frozen?
  rw[heap_alloc_new w _]
  simp
theorem Row.ints {w:World}{b n:Nat}{f:Nat→Int}(h:Row w b n fun j=>I O (f j))(hn:n≤maxLen):qR w (some ⟨b,0,none⟩) ((List.range n).map f):=by
 refine qR.of_cells (by simpa using hn) h.1 fun j hj=>?_
 rw[List.length_map,List.length_range]at hj;rw[uT f n j hj,Nat.zero_add];exact(h.2 j hj).1
def IsRow (k:IntKind) (w:World) (a:Option Addr) (len cap:Nat) (zs:List Int):Prop :=
 (a=none∧len=0∧cap=0∧zs = []) ∨
 ∃x,a=some x∧len≤cap∧cap≤maxLen∧zs.length=cap∧(∀i,i<zs.length→w.cell? (x.add i)=some (.int k (zs.getD i 0)))∧∀n∈zs,(Lit.int k n).wf=true
theorem IsRow.len {k:IntKind}{w:World}{a:Option Addr}{len cap:Nat}{zs:List Int}(h:IsRow k w a len cap zs):len≤zs.length∧zs.length≤maxLen:=by
 rcases h with⟨_,rfl,_,rfl⟩|⟨x,_,h1,h2,h3,_,_⟩
 ·simp
 ·omega
theorem IsRow.wf {k:IntKind}{w:World}{a:Option Addr}{len cap:Nat}{zs:List Int}(h:IsRow k w a len cap zs):∀n∈zs,(Lit.int k n).wf=true:=by
 rcases h with⟨_,_,_,rfl⟩|⟨x,_,_,_,_,_,h6⟩
 ·simp
 ·exact h6
theorem IsRow.get {k:IntKind}{w:World}{a:Option Addr}{len cap:Nat}{zs:List Int}(h:IsRow k w a len cap zs){i:Nat}(hi:i<len) :
  ∃b off x,a=some ⟨b,off,none⟩∧b<w.heap.size∧w.cell? ⟨b,off+i,none⟩=some (.int k x)∧Hid (zs.getD i 0=x):=by
 have hl:=h.len
 rcases h with⟨_,rfl,_,_⟩|⟨x,rfl,h1,h2,h3,h4,_⟩
 ·omega
 ·have h0:=h4 0 (by omega)
  obtain⟨b,off,spot⟩:=x;have hspot:spot=none:=by simpa [Addr.add] using World.cell?_spot h0
  subst hspot;refine⟨b,off,_,rfl,?_,?_,rfl⟩
  ·have:=World.block_lt_of_cell? w _ h0
   simpa [Addr.add] using this
  ·rw[← Go.WideShapes.add_plain]
   exact h4 i (by omega)
theorem IsRow.ints {w:World}{a:Option Addr}{len cap:Nat}{zs:List Int}(h:IsRow .i64 w a len cap zs):qR w a (zs.take len)∧(zs.take len).length=len:=by
 have hl:=h.len;have he:(zs.take len).length=len:=by rw[List.length_take];omega
 refine⟨⟨by omega,?_⟩,he⟩
 by_cases h0:len=0
 ·subst h0;exact .inl rfl
 ·obtain⟨b,off,x,rfl,hb,hc,_⟩:=h.get (i:=0) (by omega)
  refine .inr ⟨b,off,rfl,hb,fun j hj=>?_⟩
  obtain⟨b', off', y,e,_,hc', hy⟩:=h.get (i:=j) (by omega);simp only[Option.some.injEq,Addr.mk.injEq]at e;obtain⟨rfl,rfl,_⟩:=e;rw[hc', ← hy.out]
  simp[List.getD_eq_getElem?_getD,he▸hj]
/-! ### a slice of ints that the call itself appends to_ -/
def Own (w:World) (T:TypeId) (B:Nat) (v:Value) (xs:List Int):Prop:=w.ownsRow B T 1 v xs.length (xs.map (Value.int .i64))
theorem Own.nil (w:World)(T:TypeId)(B:Nat):Own w T B (.slice none 0 0) []:=World.ownsRow_nil w B T 1
theorem Own.ints {w:World}{T:TypeId}{B:Nat}{v:Value}{xs:List Int}(h:Own w T B v xs):∃p cap,v = .slice p xs.length cap∧qR w p xs:=by
 rcases h.2 with⟨hv,hn⟩|⟨g,cap,cur,hv,hB,hg,hle,hm,hs,ht⟩
 ·obtain rfl:=List.length_eq_zero_iff.1 hn
  exact⟨none,0,hv,qR.nil _ _⟩
 ·refine⟨_,cap,hv,qR.of_cells (by omega) (Array.getElem?_eq_some_iff.1 hg).1 fun j hj=>?_⟩
  have e:cur.toList[j]?=some (Value.int .i64 (xs.getD j 0)):=by
   have:=congrArg (fun l=>l[j]?) ht;simp only[Nat.mul_one,List.getElem?_take,if_pos hj]at this;rw[this]
   simp[List.getD_eq_getElem?_getD,hj]
  rw[Nat.zero_add];simp only[World.cell?,hg]
  simpa using e
theorem Own.append {P:Program}{T TS:TypeId}{i0:TypeInfo}(hi:P.info? T=some i0)(hz0:i0.zero=some (I O 0))(hz1:i0.size=1)(hz2:i0.bytes=8)(ht:P.underlying TS=some (.slice T)){w:World}{ops:Array Oper}{rest:List Oper}{o:Oper}{a:Act}{Q:Exit→Act→World→Prop}(hgd:o.guard=none)(s x:Operand)
  (ho:o.op = .call { callee := .builtin .append,args:=#[s,x],argTypes:=#[TS,TS] }) (B:Nat) (v:Value) (xs:List Int) (y:Int) (hown:Own w T B v xs) (hs:a.eval s=v)
  (hx:a.eval x = .slice (some ⟨w.heap.size,0,none⟩) 1 1) (hB:B≤w.heap.size) (hn:xs.length<1099511627776)
  (h:∀v' w', Own w' T B v' (xs ++ [y])→Below B w w' → wpList P ops Q rest (a.put o.dst v') w'):wpList P ops Q (o::rest) a (w.alloc (.cells #[I O y] T)):=by
 refine wpList_append_own _ hgd s x TS ho B T i0 (I O 0) 1 8 ht hi hz0 hz1 hz2 rfl (by decide) v xs.length (xs.map (Value.int .i64)) hs (World.ownsRow.alloc hown _) ⟨w.heap.size,0,none⟩ 1 1 [I O y] hx rfl (cell_one_new _ _ _) (by simp[Value.oneCell']) (by unfold maxLen;omega) (by omega) (by simp;omega) ?_
 intro v' w' h1 h2 _;refine h v' w' ?_ ?_
 ·unfold Own
  rw[lap,List.map_append];exact h1
 ·refine(((brf B w).alloc hB _).grown h2 (by simp;omega) fun k hk=>?_)
  exact(World.ownsRow.lt hown k hk).1
def mod (k n:Int):Int:=if n<1 then 0 else k % n
theorem gMA (k:Int){n:Int}(h:1≤n):0≤mod k n∧mod k n<n:=by
 unfold mod;rw[if_neg (by omega)];exact⟨Int.emod_nonneg _ (by omega),Int.emod_lt_of_pos _ (by omega)⟩
theorem yFA (k n:Int)(w:World)(_hk : -9223372036854775808≤k)(hn:n≤9223372036854775807) :
  Calls Tryz.prog 11 #[I O k,I O n] w fun e w' => e = .returned (I O (mod k n))∧w=w' :=by
 unfold mod
 by_cases h:n<1
 ·rw[if_pos h]
  go_enter Tryz.func11,Tryz.ntmps11
  go_wp2
  go_ret
  exact⟨rfl,rfl⟩
 ·rw[if_neg h]
  have h2:=Int.tmod_eq_emod (a:=k) (b:=n);have e1:=Int.emod_lt_of_pos k (show 0<n by omega);have e2:=Int.emod_nonneg k (show n≠0 by omega);have hm:k.tmod n<0∧k.tmod n+n=k % n∨¬k.tmod n<0∧k.tmod n=k % n:=by
   by_cases hc:0≤k∨n ∣ k
   ·rw[if_pos hc]at h2;omega
   ·rw[if_neg hc]at h2
    have:k % n≠0:=fun e=>hc (.inr (Int.dvd_of_emod_eq_zero e))
    omega
  have hz:¬n=0:=by omega
  generalize k % n=q at *;clear h2;have hb : -9223372036854775808≤k.tmod n∧k.tmod n≤9223372036854775807:=by omega
  generalize hT:k.tmod n=t at *
  rcases hm with⟨m1,m2⟩|⟨m1,m2⟩
  ·have M:=mh m2
   clear m2;have mm:IntKind.i64.wrap (t+n)=t+n:=IntWalk.i64_in _ ⟨by omega,by have:=M.out;omega⟩
   go_enter Tryz.func11,Tryz.ntmps11
   go_wp2
   go_ret
   exact⟨qA (by rw[← M.out]),rfl⟩
  ·subst m2
   go_enter Tryz.func11,Tryz.ntmps11
   go_wp2
   go_ret
   exact⟨rfl,rfl⟩
structure But (t:Nat) (w w' : World):Prop where
 os:w'.os=w.os
 tape:w'.tape=w.tape
 output:w'.output=w.output
 size:w.heap.size≤w'.heap.size
 block:∀k,k<w.heap.size→k≠t→w'.heap[k]?=w.heap[k]?
theorem But.refl (t:Nat)(w:World):But t w w:=⟨rfl,rfl,rfl,Nat.le_refl _,fun _ _ _=>rfl⟩
theorem But.trans {t:Nat}{a b c:World}(h:But t a b)(k:But t b c):But t a c :=
 ⟨k.os.trans h.os,k.tape.trans h.tape,k.output.trans h.output,Nat.le_trans h.size k.size,fun i hi hn=>(k.block i (nll hi h.size) hn).trans (h.block i hi hn)⟩
theorem But.of_below {t:Nat}{a b:World}(h:Below a.heap.size a b):But t a b:=⟨h.os,h.tape,h.output,h.size,fun i hi _=>h.block i hi⟩
theorem But.below {t B:Nat}{a b:World}(h:But t a b)(hB:B≤t)(hs:B≤a.heap.size):Below B a b:=⟨h.os,h.tape,h.output,h.size,fun i hi=>h.block i (by omega) (by omega)⟩
theorem But.cell {t:Nat}{a b:World}(h:But t a b){p:Addr}(hp:p.block<a.heap.size)(hn:p.block≠t):b.cell? p=a.cell? p:=World.cell?_of_block (w:=a) (h.block p.block hp hn)
theorem qR.but {w w' : World}{t:Nat}{p:Option Addr}{l:List Int}(h:qR w p l)(hb:But t w w')(hp:l = []∨∀a,p=some a→a.block≠t):qR w' p l:=by
 refine⟨h.1,?_⟩
 rcases h.2 with e|⟨b,off,e,hl,hc⟩
 ·exact .inl e
 rcases hp with e0|hp
 ·exact .inl e0
 ·exact .inr ⟨b,off,e,nll hl hb.size,fun j hj=>(hb.cell (p:=⟨b,off+j,none⟩) hl (hp ⟨b,off,none⟩ e)).trans (hc j hj)⟩
structure qV (w:World) (t:Nat) (l:List Int) (n:Nat):Prop where
 row:∃p cap,w.cell? ⟨t,0,none⟩=some (.slice p l.length cap)∧qR w p l∧(l = []∨∀a,p=some a→a.block<t)
 at_:w.cell? ⟨t,1,none⟩=some (I O (n:Int))
 fz:w.frozen? ⟨t,1,none⟩=false
 le:n≤l.length
 wf:∀x∈l, -9223372036854775808≤x∧x≤9223372036854775807
 lt:t<w.heap.size
 len:l.length≤400
def qN (l:List Int) (at_:Nat) (n:Int):Int:=if l.length≤at_ then 0 else mod (l.getD at_ 0) n
def qM (l:List Int) (at_:Nat):Nat:=if l.length≤at_ then at_ else at_+1
theorem qG (l:List Int)(a:Nat){n:Int}(h:1≤n):0≤qN l a n∧qN l a n<n:=by
 unfold qN
 split
 ·omega
 ·exact gMA _ h
theorem qV.belowB {w w' : World}{t B:Nat}{l:List Int}{n:Nat}(h:qV w t l n)(hb:Below B w w')(hB:t<B):qV w' t l n:=by
 obtain⟨p,cap,h1,h2,h3⟩:=h.row;refine⟨⟨p,cap,(hb.cell (p:=⟨t,0,none⟩) hB).trans h1,⟨h2.1,?_⟩,h3⟩,(hb.cell (p:=⟨t,1,none⟩) hB).trans h.at_,(hb.frozen (p:=⟨t,1,none⟩) hB).trans h.fz,h.le,h.wf,nll h.lt hb.size,h.len⟩
 rcases h2.2 with e|⟨b,off,e,hl,hc⟩
 ·exact .inl e
 rcases h3 with e0|h3
 ·exact .inl e0
 ·have hbt:b<t:=h3 ⟨b,off,none⟩ e
  exact .inr ⟨b,off,e,nll hl hb.size,fun j hj=>(hb.cell (p:=⟨b,off+j,none⟩) (by show b<B;omega)).trans (hc j hj)⟩
theorem qV.below {w w' : World}{t:Nat}{l:List Int}{n:Nat}(h:qV w t l n)(hb:Below w.heap.size w w'):qV w' t l n:=h.belowB hb h.lt
theorem uCA {l:List Int}(h:∀x∈l, -9223372036854775808≤x∧x≤9223372036854775807)(k:Nat) : -9223372036854775808≤l.getD k 0∧l.getD k 0≤9223372036854775807:=by
 rw[List.getD_eq_getElem?_getD]
 rcases Nat.lt_or_ge k l.length with hi|hi
 ·rw[List.getElem?_eq_getElem hi];exact h _ (List.getElem_mem hi)
 ·rw[List.getElem?_eq_none hi];decide
theorem uRA (a:Option Addr)(len cap:Nat)(z:List Int)(w:World)(h:IsRow .i64 w a len cap z) :
  Calls Tryz.prog 7 #[.slice a len cap] w fun e w' => e = .returned (.pointer (some ⟨w.heap.size,0,none⟩))∧qV w' w.heap.size ((z.take len).take 400) 0∧Below w.heap.size w w' :=by
 obtain⟨hI,hL⟩:=h.ints;have hl:=h.len;have hwf:∀x∈(z.take len).take 400, -9223372036854775808≤x∧x≤9223372036854775807:=fun x hx=>by
  have:=h.wf x (List.mem_of_mem_take (List.mem_of_mem_take hx))
  simpa [Lit.wf,IntKind.min,IntKind.max,IntKind.signed,IntKind.bits] using this
 have hcap:len≤cap:=by rcases h with⟨_,rfl,rfl,_⟩|⟨_,_,h1,_⟩<;>omega
 have hm:len≤9223372036854775807:=by have:=hl.2;unfold maxLen at this;omega
 have hne:∀x,a=some x→x.block<w.heap.size∨len=0:=fun x e=>by
  by_cases h0:len=0
  ·exact .inr h0
  ·obtain⟨b,off,y,e2,hb,_⟩:=h.get (i:=0) (by omega)
   rw[e]at e2
   cases e2
   exact .inl hb
 have hne2:(z.take len).take 400 = []∨∀x,a=some x→x.block<w.heap.size:=by
  by_cases h0:len=0
  ·left;subst h0;simp
  ·right;intro x e;rcases hne x e with h|h<;>omega
 have hT:((z.take len).take 400).length=min len 400:=by rw[List.length_take,hL];omega
 have hI2:qR w a ((z.take len).take 400):=by
  refine⟨by rw[hT];unfold maxLen;omega,?_⟩
  rcases hI.2 with e|⟨b,off,e,hb,hc⟩
  ·left;rw[e];simp
  ·exact .inr ⟨b,off,e,hb,fun j hj=>by
    rw[hc j (by rw[hT]at hj;rw[hL];omega)];rw[hT]at hj;simp only[List.getD_eq_getElem?_getD,List.getElem?_take]
    rw[if_pos (show j<400 by omega)]⟩
 have HW:=mh hwf;have HI:=mh hI2;have HN:=mh hne2;generalize (z.take len).take 400=l at *;clear hwf hI2 hne2 hne hI hL hl h;have HT:=mh hT;clear hT
 go_enter Tryz.func7,Tryz.ntmps7
 go_wp2
 go_ret
 have e:(min (len:Int) 400).toNat=l.length:=by rw[HT.out];omega
 rw[e];refine⟨rfl,⟨⟨a,cap,by go_simp,HI.below ((brf _ _).alloc mle _),HN.out⟩,by go_simp,by go_simp,Nat.zero_le _,HW.out,by simp,by rw[HT.out];omega⟩,by go_grown⟩
theorem qF (t:Nat)(l:List Int)(k:Nat)(n:Int)(w:World)(h:qV w t l k)(hn:n≤9223372036854775807) :
  Calls Tryz.prog 43 #[.pointer (some ⟨t,0,none⟩),I O n] w fun e w' => e = .returned (I O (qN l k n))∧qV w' t l (qM l k)∧But t w w' :=by
 obtain⟨p,cap,h1,h2,h3⟩:=h.row;have h4:=h.at_;have h5:=h.fz;have h6:=h.len;have hH:=mh h
 by_cases hk:l.length≤k
 ·have e1:qN l k n=0:=by unfold qN;rw[if_pos hk]
  have e2:qM l k=k:=by unfold qM;rw[if_pos hk]
  rw[e1,e2];clear h h3 e1 e2;have h2' := mh h2;clear h2
  go_enter Tryz.func43,Tryz.ntmps43
  go_wp2_with fail
  go_quiet (fail)
  go_wp2
  go_ret
  exact⟨rfl,hH.below (qQ _ _),But.of_below (qQ _ _)⟩
 ·have hkl:k<l.length:=by omega
  obtain⟨b,off,x,rfl,hb,hc,hx⟩:=h2.get hkl;have hbt:b≠t:=by
   rcases h3 with e0|h3
   ·subst e0;simp at hkl
   ·exact Nat.ne_of_lt (h3 _ rfl)
  have e1:qN l k n=mod x n:=by unfold qN;rw[if_neg hk,hx.out]
  have e2:qM l k=k+1:=by unfold qM;rw[if_neg hk]
  have hxb:=uCA h.wf k;rw[hx.out]at hxb;have hmod:=fun w=>yFA x n w hxb.1 hn
  rw[e1,e2];have HM:=mh hmod;have h2' := mh h2;have h3' := mh h3;clear h h2 e1 e2 h3 hmod;have hk0:(0:Int)≤(k:Int):=inn _;have hk1:(k:Int)<(l.length:Int):=by omega
  have hz1:(k:Int)+1 - 1=(k:Int):=by omega
  go_enter Tryz.func43,Tryz.ntmps43
  go_wp2_with fail
  go_quiet (fail)
  go_wp2_with fail
  have g1:((w.drewN nq).setCell ⟨t,1,none⟩ (I O ((k:Int)+1))).cell? ⟨t,0,none⟩=some (.slice (some ⟨b,off,none⟩) l.length cap):=by
   rw[World.cell?_setCell_other _ _ _ _ (by intro e;cases e)];exact h1
  have g2:((w.drewN nq).setCell ⟨t,1,none⟩ (I O ((k:Int)+1))).cell? ⟨t,1,none⟩=some (I O ((k:Int)+1)):=World.cell?_setCell_same _ _ _ (show(w.drewN nq).cell? _=_ from h4);have g3:((w.drewN nq).setCell ⟨t,1,none⟩ (I O ((k:Int)+1))).cell? ⟨b,off+k,none⟩=some (I O x):=by
   exact gU (show(w.drewN nq).cell? _=_ from hc) (fun e=>hbt e.symm)
  have g4:((w.drewN nq).setCell ⟨t,1,none⟩ (I O ((k:Int)+1))).frozen? ⟨t,1,none⟩=false:=by rw[World.frozen?_setCell];exact h5
  have g5:But t w ((w.drewN nq).setCell ⟨t,1,none⟩ (I O ((k:Int)+1))) :=
   ⟨rfl,rfl,rfl,by simp[World.setCell,World.drewN],fun i _ hn=>Below.heap_setCell (w.drewN nq) _ _ _ hn⟩
  have G5:=mh g5;clear g5;generalize (w.drewN nq).setCell ⟨t,1,none⟩ (I O ((k:Int)+1))=W at *;clear h1 h4 hc h5
  go_quiet ((go_at_call 11;exact Calls.quiet_of_same (Calls.turn (HM _))))
  go_wp2
  go_ret
  refine⟨rfl,?_,G5.trans (But.of_below (qQ _ _))⟩
  have hbb:∀a,some (⟨b,off,none⟩:Addr)=some a→a.block≠t:=fun a e=>by cases e;exact hbt
  have hb3:=h3'.out;exact⟨⟨_,cap,g1,(h2'.but G5 (.inr hbb)).below (qQ _ _),hb3⟩,g2,g4,by omega,hH.wf,nll hH.lt G5.size,h6⟩
theorem zU (t:Nat)(l:List Int)(k:Nat)(low high:Int)(w:World)(h:qV w t l k)(h0 : -1125899906842624≤low)(h1:low≤high)(h2:high≤1125899906842624) :
  Calls Tryz.prog 45 #[.pointer (some ⟨t,0,none⟩),I O low,I O high] w fun e w' => e = .returned (I O (low+qN l k (high - low+1)))∧qV w' t l (qM l k)∧But t w w' :=by
 have hn:=qF t l k (high - low+1) w h (by omega);obtain⟨g1,g2⟩:=qG l k (n:=high - low+1) (by omega);have HN:=mh hn;clear hn h;generalize qN l k (high - low+1)=g at *
 go_enter Tryz.func45,Tryz.ntmps45
 go_wp2_with (first|(go_at_call 43;refine(HN).mono ?_;rintro e w1 ⟨rfl,ht,hb⟩))
 go_ret
 exact⟨rfl,ht,hb⟩
/-! ### some numbers, one after the other -/
theorem xE (t:Nat)(l:List Int)(k:Nat)(n:Int)(w:World)(h:qV w t l k)(h1:1≤n)(hn:n≤9223372036854775807) :
  Calls Tryz.prog 44 #[.pointer (some ⟨t,0,none⟩),I O n] w fun e w' => e = .returned (.bool (qN l k n==n - 1))∧qV w' t l (qM l k)∧But t w w' :=by
 have hn1:=qF t l k n w h hn;obtain⟨g1,g2⟩:=qG l k h1;have HN:=mh hn1;clear hn1 h;generalize qN l k n=g at *
 go_enter Tryz.func44,Tryz.ntmps44
 go_wp2_with (first|(go_at_call 43;refine(HN).mono ?_;rintro e w1 ⟨rfl,ht,hb⟩))
 go_ret
 exact⟨rfl,ht,hb⟩
theorem But.stp {t:Nat}{a b c:World}(h:But t a b)(hb:Below a.heap.size b c):But t a c :=
 ⟨hb.os.trans h.os,hb.tape.trans h.tape,hb.output.trans h.output,Nat.le_trans h.size hb.size,fun i hi hn=>(hb.block i hi).trans (h.block i hi hn)⟩
theorem But.stpB {t B:Nat}{a b c:World}(h:But t a b)(hb:Below B b c)(hB:a.heap.size≤B):But t a c :=
 ⟨hb.os.trans h.os,hb.tape.trans h.tape,hb.output.trans h.output,Nat.le_trans h.size hb.size,fun k hk hne=>(hb.block k (nll hk hB)).trans (h.block k hk hne)⟩
theorem But.nxt {t:Nat}{a b c:World}(h:But t a b)(hb:Below b.heap.size b c):But t a c:=h.stp (hb.mono h.size)
theorem But.drew {t:Nat}{a b:World}(h:But t a b):But t a b.drew:=h.stp ((brf _ _).drew)
theorem qX.but {α:Type}{S:jJ α}{w w' : World}{T:TypeId}{B t:Nat}{v:Value}{L:List α}(h:qX S w T B v L)(hb:But t w w')(hB:t<B):qX S w' T B v L :=
 h.blocks fun g _ hg hl=>hb.block g hl (by omega)
open Te
def jP (B:Nat):Nat→Prop:=fun b=>B≤b
def vE (W:World) (b:Nat) (x0 x1 x2 x3:Value):World:=(((W.setCell ⟨b,0,none⟩ x0).setCell ⟨b,1,none⟩ x1).setCell ⟨b,2,none⟩ x2).setCell ⟨b,3,none⟩ x3
theorem zYA (W:World)(b:Nat)(x0 x1 x2 x3:Value):(vE W b x0 x1 x2 x3).heap.size=W.heap.size∧∀k,k≠b→(vE W b x0 x1 x2 x3).heap[k]?=W.heap[k]?:=by
 refine⟨by simp[vE,World.setCell],fun k hk=>?_⟩
 unfold vE
 simp[World.setCell,Array.getElem?_modify,Ne.symm hk]
theorem zT {B b:Nat}{W:World}(hb:B≤b)(x0 x1 x2 x3:Value):Below B W (vE W b x0 x1 x2 x3) :=
 ((((brf B W).setCell hb _).setCell hb _).setCell hb _).setCell hb _
theorem xF {rd:Nat}{w W:World}(hb:But rd w W)(x0 x1 x2 x3:Value):But rd w (vE W w.heap.size x0 x1 x2 x3) :=
 hb.stpB (zT mle x0 x1 x2 x3) mle
open Sc
theorem jN.apart {w w' : World}{B G:Nat}{v v' : Value}(h:jN w w' B G v v'){b:Nat}(hG:w.heap.size≤G)(hb:b<w.heap.size)(hn:v.ownBlock≠some b):v'.ownBlock≠some b:=fun e2=>by
 rcases h.block with e3|e3
 ·rw[e3]at e2;exact hn e2
 ·rw[e3]at e2;injection e2 with e2;omega
def Qx (B:Nat) (v:Value) (lb:Option Nat) (b:Nat):Prop:=B≤b∧v.ownBlock≠some b∧lb≠some b
theorem qB (w:World){g b:Nat}(h:b≠g)(i:Nat)(u:Value):(w.setCell ⟨g,i,none⟩ u).heap[b]?=w.heap[b]?:=by
 simp[World.setCell,Array.getElem?_modify,Ne.symm h]
theorem jG (w:World)(a:Addr)(u:Value):(w.setCell a u).heap.size=w.heap.size:=by simp[World.setCell]
structure LwR (B d:Nat) (wr:World) (v:Value) (R:List RSx) (L:List Sch):Prop where
 hl:R.length=L.length
 own:qX SSc wr 81 B v R
 rows:∀k (h:k<R.length) (h' : k<L.length),SV (Qx B v none) wr d R[k] L[k]
def xP (B:Nat) (wr:World) (v:Value) (L:List Sch):Prop:=∃d R,LwR B d wr v R L
theorem xP.nil (B:Nat)(wr:World):xP B wr (.slice none 0 0) []:=⟨0, [],rfl,qX.nil _ _ _,fun k h=>by simp at h⟩
theorem LwR.blocks {B d:Nat}{wr w' : World}{v:Value}{R:List RSx}{L:List Sch}(h:LwR B d wr v R L)(hs:wr.heap.size≤w'.heap.size)(hb:∀b,B≤b→b<wr.heap.size→w'.heap[b]?=wr.heap[b]?):LwR B d w' v R L :=
 ⟨h.hl,h.own.blocks fun g _ h3 h4=>hb g h3 h4,fun k a b=>(h.rows k a b).change hs fun b q hl=>⟨hb b q.1 hl,q⟩⟩
theorem xP.blocks {B:Nat}{wr w' : World}{v:Value}{L:List Sch}(h:xP B wr v L)(hs:wr.heap.size≤w'.heap.size)(hb:∀b,B≤b→b<wr.heap.size→w'.heap[b]?=wr.heap[b]?):xP B w' v L:=by
 obtain⟨d,R,h⟩:=h;exact⟨d,R,h.blocks hs hb⟩
theorem xP.below {B:Nat}{wr w' : World}{v:Value}{L:List Sch}(h:xP B wr v L)(hb:Below wr.heap.size wr w'):xP B w' v L:=h.blocks hb.size fun b _ hl=>hb.block b hl
theorem xP.but {B t:Nat}{wr w' : World}{v:Value}{L:List Sch}(h:xP B wr v L)(hb:But t wr w')(ht:t<B):xP B w' v L:=h.blocks hb.size fun b h1 hl=>hb.block b hl (by omega)
theorem LwR.push {B d d' t G:Nat}{wr w5 w6:World}{v v6:Value}{R:List RSx}{L:List Sch}{r:RSx}{s:Sch}(h:LwR B d wr v R L)(hB:B≤wr.heap.size)(hb:But t wr w5)(ht:t<B)(hG:w5.heap.size≤G)(hv:SV (jP wr.heap.size) w5 d' r s)
  (hO:qX SSc w6 81 B v6 (R ++ [r])) (hap:jN w5 w6 B G v v6):xP B w6 v6 (L ++ [s]):=by
 have hsz:wr.heap.size≤w6.heap.size:=Nat.le_trans hb.size hap.size;refine⟨max d d', R ++ [r],by rw[lap,lap,h.hl];rfl,hO,fun k a b=>?_⟩
 by_cases hlt:k<R.length
 ·rw[List.getElem_append_left hlt,List.getElem_append_left (by rw[← h.hl];exact hlt)]
  refine((h.rows k hlt (by rw[← h.hl];exact hlt)).change hsz fun b q hl=>?_).deep (Nat.le_max_left _ _)
  have hl5:=nll hl hb.size;exact⟨(hap.far b hl5 q.2.1).trans (hb.block b hl (by have:=q.1;omega)),q.1,hap.apart hG hl5 q.2.1,fun e=>by cases e⟩
 ·have ek:k=R.length:=by rw[lap]at a;simp at a;omega
  subst ek;rw[List.getElem_append_right mle,List.getElem_append_right (by rw[h.hl];exact Nat.le_refl _)];simp only[Nat.sub_self,h.hl,List.getElem_cons_zero];refine(hv.change hap.size fun b q hl=>?_).deep (Nat.le_max_right _ _);have hn:v.ownBlock≠some b:=fun e=>by have:=(h.own.lt e).2;unfold jP at q;omega
  exact⟨hap.far b hl hn,by unfold jP at q;omega,hap.apart hG hl hn,fun e=>by cases e⟩
theorem xP.at {B:Nat}{wr:World}{v:Value}{L:List Sch}(h:xP B wr v L){k:Nat}(hk:k<L.length) :
  ∃g c r,v = .slice (some ⟨g,0,none⟩) L.length c∧L.length≤c∧B≤g∧g<wr.heap.size∧yA wr g (k*10) r∧r.num=L[k].num∧r.ex=L[k].ex∧(∀i,wr.frozen? ⟨g,i,none⟩=false) ∧
    ∀x,xP B (wr.setCell ⟨g,k*10+8,none⟩ (I O x)) v (L.set k { L[k] with ex:=x }):=by
 obtain⟨d,R,h⟩:=h;have hk' : k<R.length:=by rw[h.hl];exact hk
 obtain⟨p,c,e, -, -,hc, -, -⟩:=h.own.cut h.hl;have ho:=h.own;rw[e]at ho;obtain⟨g,eg,hn,hB,hg,hcl,hf,hs⟩:=ho.at hk'; have hk10:SSc.k=10:=rfl;rw[hk10]at hcl hs;have hrow:=h.rows k hk' hk;refine⟨g,c,R[k],by rw[e,eg],hc,hB,hg,⟨hcl 0 _ rfl,hcl 1 _ rfl,hcl 2 _ rfl,hcl 3 _ rfl,hcl 4 _ rfl,hcl 5 _ rfl,hcl 6 _ rfl,hcl 7 _ rfl,hcl 8 _ rfl,hcl 9 _ rfl⟩,hrow.num,hrow.ex,hf,fun x=>?_⟩;have ho2:=hs 8 (I O x) { R[k] with ex:=x } (by omega) rfl;have key:∀b,Qx B v none b→b<wr.heap.size→(wr.setCell ⟨g,k*10+8,none⟩ (I O x)).heap[b]?=wr.heap[b]?∧Qx B v none b:=fun b q _=>⟨qB _ (fun e2=>q.2.1 (by rw[e,eg,e2];rfl)) _ _,q⟩
 refine⟨d,R.set k { R[k] with ex:=x },by rw[List.length_set,List.length_set,h.hl],by rw[e];exact ho2,fun j a b=>?_⟩
 rw[List.length_set]at a b;have hz:wr.heap.size≤(wr.setCell ⟨g,k*10+8,none⟩ (I O x)).heap.size:=by rw[jG];exact Nat.le_refl _
 rw[List.getElem_set,List.getElem_set]
 by_cases ej:k=j
 ·subst ej
  rw[if_pos rfl,if_pos rfl];have:=hrow.change hz key;exact⟨this.num,this.nm,this.t,this.br,this.bn,this.bc,this.bz,this.bq,this.least,rfl,this.needs⟩
 ·rw[if_neg ej,if_neg ej]
  exact(h.rows j a b).change hz key
theorem xP.ss {B:Nat}{wr:World}{v:Value}{L:List Sch}(h:xP B wr v L){n:Nat}(hn:L.length=n):∃p c d,v = .slice p n c∧n≤c∧(p=none→c=0)∧xY (fun b=>B≤b) wr d p L:=by
 obtain⟨d,R,h⟩:=h;obtain⟨p,c,e,h1,h2,h3, -,h5⟩:=h.own.cut (h.hl.trans hn);exact⟨p,c,d,e,h3,fun e=>(h1 e).1,⟨R,h.hl,h5,fun k a b=>(h.rows k a b).change mle fun b q _=>⟨rfl,q.1⟩⟩,fun a ea => .inr (h2 a ea).2.2.1⟩
structure yZ (s:Sch):Prop where
 nm:s.nm.size≤40
 ct:count s.cond<8
 n0:0≤s.num
 n3:s.num≤3
theorem yZ.put {L:List Sch}(h:∀s∈L,yZ s){k:Nat}(hk:k<L.length)(x:Int):∀s∈L.set k { L[k] with ex:=x },yZ s:=by
 intro s hs
 rcases List.mem_or_eq_of_mem_set hs with hs|rfl
 ·exact h s hs
 ·have:=h L[k] (List.getElem_mem hk)
  exact⟨this.nm,this.ct,this.n0,this.n3⟩
def gY (t:Nat) (l:List Int) (most:Nat) (w:World) (e:Ending) (w' : World):Prop :=
 ∃(v:Value) (L:List Sch) (q:Nat),e = .returned v∧xP w.heap.size w' v L∧jU L=(-1,0)∧L.length≤most∧(∀s∈L,yZ s)∧qV w' t l q∧But t w w'
open Go.Shelf
theorem uQA {P:Program}{ops:Array Oper}{o:Oper}{a:Act}{w:World}{K:Act→World→Prop}{Q:Exit→Act→World→Prop}{E:Prop}(hgd:o.guard=none)(f:FuncId)(xs:Array Operand)(ts:Array TypeId)(args:Array Value)
  (ho:o.op = .call { callee := .value (.func f),args:=xs,argTypes:=ts }) (he:∀args w,(callFunc f args).run P w = .ok (.enter f args) w) (ha:xs.map a.eval=args) {R:Ending→World→Prop} (hc:Calls P f args w R)
  (h:∀e w', R e w' → ∃v,e = .returned v∧K (a.put o.dst v) w'):if Region.wanted o (yielded ops a.tmps)=true then Oper.wp P o a w K Q else E:=by
 have hw:Region.wanted o (yielded ops a.tmps)=true:=by simp[Region.wanted,hgd]
 rw[if_pos hw];have hrun:(execOp a.eval o).run P w = .ok (.enter f args) w:=by
  subst ha
  simp[execOp,ho,resolve,invoke,Act.eval,Deferred.ofValue,he]
 unfold Oper.wp;rw[hrun,Oper.upon_enter];refine hc.mono fun e w' hR=>?_
 obtain⟨v,rfl,k⟩:=h e w' hR;exact k
/-! ### the block of a term -/
structure TB (b:Nat) (W:World) (x0 x1 x2 x3:Value):Prop where
 c0:W.cell? ⟨b,0,none⟩=some x0
 c1:W.cell? ⟨b,1,none⟩=some x1
 c2:W.cell? ⟨b,2,none⟩=some x2
 c3:W.cell? ⟨b,3,none⟩=some x3
 f0:W.frozen? ⟨b,0,none⟩=false
 f1:W.frozen? ⟨b,1,none⟩=false
 f2:W.frozen? ⟨b,2,none⟩=false
 f3:W.frozen? ⟨b,3,none⟩=false
 lt:b<W.heap.size
theorem TB.blk {b:Nat}{W W' : World}{x0 x1 x2 x3:Value}(h:TB b W x0 x1 x2 x3)(hs:W.heap.size≤W'.heap.size)(e:W'.heap[b]?=W.heap[b]?):TB b W' x0 x1 x2 x3:=by
 have c:∀i,W'.cell? ⟨b,i,none⟩=W.cell? ⟨b,i,none⟩:=fun i=>World.cell?_of_block (w:=W) e
 have f:∀i,W'.frozen? ⟨b,i,none⟩=W.frozen? ⟨b,i,none⟩:=fun i=>by simp only[World.frozen?,e]
 exact⟨(c 0).trans h.c0,(c 1).trans h.c1,(c 2).trans h.c2,(c 3).trans h.c3,(f 0).trans h.f0,(f 1).trans h.f1,(f 2).trans h.f2,(f 3).trans h.f3,nll h.lt hs⟩
theorem TB.below {b:Nat}{W W' : World}{x0 x1 x2 x3:Value}(h:TB b W x0 x1 x2 x3)(hb:Below W.heap.size W W'):TB b W' x0 x1 x2 x3:=h.blk hb.size (hb.block b h.lt)
theorem gT (W:World)(b i:Nat)(v:Value):(W.setCell ⟨b,i,none⟩ v).heap.size=W.heap.size:=by simp[World.setCell]
theorem TB.set0 {b:Nat}{W:World}{x0 x1 x2 x3:Value}(h:TB b W x0 x1 x2 x3)(v:Value):TB b (W.setCell ⟨b,0,none⟩ v) v x1 x2 x3 :=
 ⟨World.cell?_setCell_same _ _ _ h.c0,(World.cell?_setCell_other _ _ _ _ (fun e=>by cases e)).trans h.c1,(World.cell?_setCell_other _ _ _ _ (fun e=>by cases e)).trans h.c2,(World.cell?_setCell_other _ _ _ _ (fun e=>by cases e)).trans h.c3,
  (World.frozen?_setCell _ _ _ _).trans h.f0,(World.frozen?_setCell _ _ _ _).trans h.f1,(World.frozen?_setCell _ _ _ _).trans h.f2,(World.frozen?_setCell _ _ _ _).trans h.f3,by rw[gT];exact h.lt⟩
theorem TB.set1 {b:Nat}{W:World}{x0 x1 x2 x3:Value}(h:TB b W x0 x1 x2 x3)(v:Value):TB b (W.setCell ⟨b,1,none⟩ v) x0 v x2 x3 :=
 ⟨(World.cell?_setCell_other _ _ _ _ (fun e=>by cases e)).trans h.c0,World.cell?_setCell_same _ _ _ h.c1,(World.cell?_setCell_other _ _ _ _ (fun e=>by cases e)).trans h.c2,(World.cell?_setCell_other _ _ _ _ (fun e=>by cases e)).trans h.c3,
   (World.frozen?_setCell _ _ _ _).trans h.f0,(World.frozen?_setCell _ _ _ _).trans h.f1,(World.frozen?_setCell _ _ _ _).trans h.f2,(World.frozen?_setCell _ _ _ _).trans h.f3,by rw[gT];exact h.lt⟩
theorem TB.set2 {b:Nat}{W:World}{x0 x1 x2 x3:Value}(h:TB b W x0 x1 x2 x3)(v:Value):TB b (W.setCell ⟨b,2,none⟩ v) x0 x1 v x3 :=
 ⟨(World.cell?_setCell_other _ _ _ _ (fun e=>by cases e)).trans h.c0,(World.cell?_setCell_other _ _ _ _ (fun e=>by cases e)).trans h.c1,World.cell?_setCell_same _ _ _ h.c2,(World.cell?_setCell_other _ _ _ _ (fun e=>by cases e)).trans h.c3,
   (World.frozen?_setCell _ _ _ _).trans h.f0,(World.frozen?_setCell _ _ _ _).trans h.f1,(World.frozen?_setCell _ _ _ _).trans h.f2,(World.frozen?_setCell _ _ _ _).trans h.f3,by rw[gT];exact h.lt⟩
theorem TB.set3 {b:Nat}{W:World}{x0 x1 x2 x3:Value}(h:TB b W x0 x1 x2 x3)(v:Value):TB b (W.setCell ⟨b,3,none⟩ v) x0 x1 x2 v :=
 ⟨(World.cell?_setCell_other _ _ _ _ (fun e=>by cases e)).trans h.c0,(World.cell?_setCell_other _ _ _ _ (fun e=>by cases e)).trans h.c1,(World.cell?_setCell_other _ _ _ _ (fun e=>by cases e)).trans h.c2,World.cell?_setCell_same _ _ _ h.c3,
   (World.frozen?_setCell _ _ _ _).trans h.f0,(World.frozen?_setCell _ _ _ _).trans h.f1,(World.frozen?_setCell _ _ _ _).trans h.f2,(World.frozen?_setCell _ _ _ _).trans h.f3,by rw[gT];exact h.lt⟩
theorem TB.res {b:Nat}{W:World}{x0 x1 x2 x3:Value}(h:TB b W x0 x1 x2 x3)(y0 y1 y2 y3:Value):TB b (vE W b y0 y1 y2 y3) y0 y1 y2 y3:=(((h.set0 y0).set1 y1).set2 y2).set3 y3
/-! ### what read qN -/
end Go.Proofs.YtefcalgjnkigjaaGreat
