/- Packed. -/
import Derived.Test.YtljibgchickcpaaGreatDoorC2
set_option maxRecDepth 100000
set_option maxHeartbeats 2000000
open Go.Value renaming int → I
open Go.IntKind renaming i64 → O
namespace Go.Proofs.YtljibgchickcpaaGreatDoor
namespace Sc
open Go.Lib Te
structure Brk where
 up:Int
 rate:Int
structure Sch where
 num:Int
 nm:ByteArray
 cond:Tm
 br:List Brk
 least:Int
 ex:Int
 needs:Bool
def bitB (x n:Int):Bool:=decide (x / 2 ^ n.toNat % 2=1)
def upB (l:List Brk) (k:Nat):Int:=if k=0 then 0 else match l[k - 1]? with|some b=>b.up|none=>0
def brAt (l:List Brk) (k:Nat):Bool:=match l[k]? with|some b=>decide (upB l k<b.up)&&(decide (b.up≤268435456)&&(decide (0≤b.rate)&&decide (b.rate≤1048576)))|none=>true
def brAll (l:List Brk) (n:Nat):Bool:=(List.range n).all (brAt l)
def brB (l:List Brk):Bool:=brAll l l.length&&(decide (1≤l.length)&&decide (l.length≤6))
theorem brAll_succ (l:List Brk)(n:Nat):brAll l (n+1)=(brAll l n&&brAt l n):=by unfold brAll;rw[List.range_succ,List.all_append];simp
theorem brAll_mono {l:List Brk}{m n:Nat}(h:m≤n)(h2:brAll l n=true):brAll l m=true:=by
 unfold brAll at *;rw[List.all_eq_true]at *;intro i hi;exact h2 i (List.mem_range.2 (nll (List.mem_range.1 hi) h))
theorem brAt_some {l:List Brk}{k:Nat}(h:k<l.length):brAt l k=(decide (upB l k<l[k].up)&&(decide (l[k].up≤268435456)&&(decide (0≤l[k].rate)&&decide (l[k].rate≤1048576)))):=by
 unfold brAt;rw[List.getElem?_eq_getElem h]
theorem upB_succ {l:List Brk}{k:Nat}(h:k<l.length):upB l (k+1)=l[k].up:=by
 unfold upB;rw[if_neg (by omega),Nat.add_sub_cancel,List.getElem?_eq_getElem h]
theorem upB_nonneg {l:List Brk}{k:Nat}(hk:k≤l.length)(h:brAll l k=true):0≤upB l k:=by
 induction k with
 | zero=>unfold upB;simp
 | succ k ih =>
   rw[brAll_succ,Bool.and_eq_true]at h;have h1:=ih (by omega) h.1;rw[upB_succ (by omega)];have:=h.2;rw[brAt_some (by omega),Bool.and_eq_true,decide_eq_true_eq]at this;omega
def one17 (s:Sch):Int :=
 if s.num<0∨15<s.num∨s.least<0∨268435456<s.least then 2
 else if Wo.nameB s.nm.data.toList=false then 5
 else if chkT s.cond≠0 then chkT s.cond
 else if brB s.br=false∨s.ex<0∨65536≤s.ex∨bitB s.ex s.num=true then 3
 else 0
def fst (f:Nat→Int) (n:Nat):Option Nat:=(List.range n).find? fun i=>f i != 0
theorem fst_none {f:Nat→Int}{n:Nat}(h:∀j,j<n→f j=0):fst f n=none:=by
 unfold fst;rw[List.find?_eq_none];intro i hi;rw[h i (List.mem_range.1 hi)]
 decide
theorem fst_some {f:Nat→Int}{n k:Nat}(hk:k<n)(h:∀j,j<k→f j=0)(h2:f k≠0):fst f n=some k:=by
 unfold fst;rw[List.find?_eq_some_iff_append];refine⟨by simpa using h2,List.range k,(List.range (n - k - 1)).map (k+1+·),?_,fun i hi=>?_⟩
 ·have:n=k+(n - k - 1+1):=by omega
  rw[this,List.range_add,List.range_succ_eq_map]
  simp
  intro a _;omega
 ·rw[h i (List.mem_range.1 hi)];decide
def twice (L:List Sch) (i:Nat) (s:Sch):Bool:=(match i with|0=>false|k+1=>match L[k]? with|some p=>decide (s.num≤p.num)|none=>false)||(L.take i).any fun x=>x.nm.data.toList==s.nm.data.toList
def errA (L:List Sch) (i:Nat):Int:=match L[i]? with|some s=>if one17 s≠0 then one17 s else if twice L i s=true then 6 else 0|none=>0
def find17 (L:List Sch) (n:Int):Int:=match (L.findIdx? fun s=>s.num==n) with|some i=>(i:Int)|none => -1
def mutN (L:List Sch) (s:Sch) (n:Nat):Bool:=if bitB s.ex n=false then true else match L.find? fun x=>x.num==(n:Int) with|some x=>bitB x.ex s.num|none=>false
def mutual17 (L:List Sch) (s:Sch):Bool:=(List.range 16).all (mutN L s)
def errB (L:List Sch) (i:Nat):Int:=match L[i]? with|some s=>if mutual17 L s=true then 0 else 17|none=>0
def chk17 (L:List Sch):Int × Int :=
 if 16<L.length then (0,1)
 else match fst (errA L) L.length with
  | some i=>((i:Int),errA L i)
  | none=>match fst (errB L) L.length with
    | some i=>((i:Int),17)
    | none=>(-1,0)
def amt (l:List Brk) (sq:Int) (k:Nat):Int:=match k with|0=>0|k+1=>amt l sq k+match l[k]? with|some b=>max 0 (min sq b.up - upB l k)*b.rate|none=>0
def amtE (s:Sch) (sq:Int):Int:=if one17 s≠0 then 17 else if sq<0∨268435456<sq then 2 else 0
def amtV (s:Sch) (sq:Int):Int:=if amtE s sq≠0 then 0 else amt s.br sq s.br.length / 100
/-! ### lines -/
/-! ### reading -/
end Sc
open Go.RowKit
structure Shape (α:Type) where
 k:Nat
 cells:α→List Value
 len:∀a,(cells a).length=k
 pos:0<k
 one:∀a,∀u∈cells a,u.oneCell' = true
variable {α:Type} (S:Shape α)
def Shape.flat (L:List α):List Value:=L.flatMap S.cells
theorem Shape.flat_len (L:List α):(S.flat L).length=L.length*S.k:=by
 induction L with
 | nil=>simp[Shape.flat]
 | cons a L ih =>
   show(S.cells a++S.flat L).length=_
   rw[lap,ih,S.len,List.length_cons,Nat.add_mul];omega
theorem Shape.flat_append (L M:List α):S.flat (L++M)=S.flat L++S.flat M:=by unfold Shape.flat;rw[List.flatMap_append]
theorem Shape.flat_single (a:α):S.flat [a]=S.cells a:=by simp[Shape.flat]
theorem Shape.flat_at (L:List α)(j:Nat)(hj:j<L.length)(i:Nat)(hi:i<S.k):(S.flat L)[j*S.k+i]?=(S.cells L[j])[i]?:=by
 induction L generalizing j with
 | nil=>simp at hj
 | cons a L ih =>
   show(S.cells a++S.flat L)[j*S.k+i]?=_
   match j with
   | 0=>rw[List.getElem?_append_left (by rw[S.len];omega)];simp
   | j+1 =>
     rw[List.getElem?_append_right (by rw[S.len,Nat.add_mul];omega),S.len];have e:(j+1)*S.k+i - S.k=j*S.k+i:=by rw[Nat.add_mul];omega
     rw[e,ih j (by simpa using hj)]
     simp
theorem Shape.flat_set (L:List α)(j:Nat)(hj:j<L.length)(i:Nat)(hi:i<S.k)(u:Value)(a:α)(h:S.cells a=(S.cells L[j]).set i u):(S.flat L).set (j*S.k+i) u=S.flat (L.set j a):=by
 induction L generalizing j with
 | nil=>simp at hj
 | cons b L ih =>
   match j with
   | 0 =>
     show(S.cells b++S.flat L).set (0*S.k+i) u=S.cells a++S.flat L
     rw[List.set_append_left _ _ (by rw[S.len];omega),h]
     simp
   | j+1 =>
     show(S.cells b++S.flat L).set ((j+1)*S.k+i) u=S.cells b++S.flat (L.set j a)
     rw[List.set_append_right _ _ (by rw[S.len,Nat.add_mul];omega),S.len];have e:(j+1)*S.k+i - S.k=j*S.k+i:=by rw[Nat.add_mul];omega
     rw[e,ih j (by simpa using hj) (by simpa using h)]
theorem Shape.flat_ones (L:List α):∀u∈S.flat L,u.oneCell' = true:=fun u hu=>by
 obtain⟨a, -,ha⟩:=List.mem_flatMap.1 hu;exact S.one a u ha
theorem Shape.flat_cut (L:List α)(m:Nat)(h:m≤L.length):S.flat L=S.flat (L.take m)++S.flat (L.drop m)∧(S.flat (L.take m)).length=m*S.k :=
 ⟨by rw[← S.flat_append,List.take_append_drop],by rw[S.flat_len,List.length_take,Nat.min_eq_left h]⟩
theorem Shape.flat_take (L:List α)(m:Nat):S.flat (L.take m)=(S.flat L).take (m*S.k):=by
 by_cases h:m≤L.length
 ·obtain⟨e,l⟩:=S.flat_cut L m h
  rw[e,← l,List.take_left]
 ·rw[List.take_of_length_le (by omega:L.length≤m),List.take_of_length_le (by rw[S.flat_len];exact Nat.mul_le_mul_right _ (by omega))]
theorem Shape.flat_drop (L:List α)(m:Nat)(h:m≤L.length):S.flat (L.drop m)=(S.flat L).drop (m*S.k):=by
 obtain⟨e,l⟩:=S.flat_cut L m h;rw[e,← l,List.drop_left]
def Recs (w:World) (p:Option Addr) (L:List α):Prop :=
 L.length≤maxLen∧(L = []∨∃b off,p=some ⟨b,off,none⟩∧b<w.heap.size∧∀n u,(S.flat L)[n]?=some u→w.cell? ⟨b,off+n,none⟩=some u)
variable {S}
theorem Recs.nil (w:World)(p:Option Addr):Recs S w p []:=⟨by simp,.inl rfl⟩
theorem Recs.below {w w' : World}{p:Option Addr}{L:List α}(h:Recs S w p L)(hb:Below w.heap.size w w'):Recs S w' p L:=by
 refine⟨h.1,?_⟩
 rcases h.2 with h|⟨b,off,hp,hl,hc⟩
 ·exact .inl h
 ·exact .inr ⟨b,off,hp,nll hl hb.size,fun n u hu=>(hb.cell (p:=⟨b,off+n,none⟩) hl).trans (hc n u hu)⟩
theorem Recs.len {w:World}{p:Option Addr}{L:List α}(h:Recs S w p L):L.length≤9223372036854775807:=by
 have:=h.1;unfold maxLen at this;omega
theorem Recs.at {w:World}{p:Option Addr}{L:List α}(h:Recs S w p L){k:Nat}(hk:k<L.length) :
  ∃b off,p=some ⟨b,off,none⟩∧b<w.heap.size∧∀i u,(S.cells L[k])[i]?=some u→w.cell? ⟨b,off+k*S.k+i,none⟩=some u:=by
 rcases h.2 with rfl|⟨b,off,hp,hl,hc⟩
 ·simp at hk
 ·refine⟨b,off,hp,hl,fun i u hu=>?_⟩
  have hi:i<S.k:=by rw[← S.len L[k]];exact(List.getElem?_eq_some_iff.1 hu).1
  rw[Nat.add_assoc];exact hc _ _ ((S.flat_at L k hk i hi).trans hu)
theorem Recs.take {w:World}{p:Option Addr}{L:List α}(h:Recs S w p L)(m:Nat):Recs S w p (L.take m):=by
 refine⟨by rw[List.length_take];have:=h.1;omega,?_⟩
 rcases h.2 with rfl|⟨b,off,hp,hl,hc⟩
 ·exact .inl (by simp)
 ·exact .inr ⟨b,off,hp,hl,fun n u hu=>hc n u (by
   rw[S.flat_take,List.getElem?_take]at hu
   split at hu
   ·exact hu
   ·cases hu)⟩
theorem Recs.drop {w:World}{b off:Nat}{L:List α}(h:Recs S w (some ⟨b,off,none⟩) L)(m:Nat):Recs S w (some ⟨b,off+m*S.k,none⟩) (L.drop m):=by
 refine⟨by rw[List.length_drop];have:=h.1;omega,?_⟩
 rcases h.2 with rfl|⟨b', off', hp,hl,hc⟩
 ·exact .inl (by simp)
 ·cases hp
  by_cases hm:m≤L.length
  ·refine .inr ⟨b,off+m*S.k,rfl,hl,fun n u hu=>?_⟩
   rw[S.flat_drop L m hm,List.getElem?_drop]at hu;rw[Nat.add_assoc];exact hc _ _ hu
  ·exact .inl (List.drop_of_length_le (by omega))
theorem Recs.of_cells {w:World}{b off:Nat}{L:List α}(hm:L.length≤maxLen)(hb:b<w.heap.size)(h:∀n u,(S.flat L)[n]?=some u→w.cell? ⟨b,off+n,none⟩=some u):Recs S w (some ⟨b,off,none⟩) L :=
 ⟨hm,.inr ⟨b,off,rfl,hb,h⟩⟩
theorem Recs.lit (w:World)(T:TypeId)(L:List α)(hl:L.length≤maxLen):Recs S (w.alloc (.cells (S.flat L).toArray T)) (some ⟨w.heap.size,0,none⟩) L:=by
 refine Recs.of_cells hl (by simp) fun j u hu=>?_
 rw[Nat.zero_add,cwn]
 simpa using hu
/-! ### rows of the call's own -/
variable (S)
def OwnR (w:World) (T:TypeId) (B:Nat) (v:Value) (L:List α):Prop:=w.ownsRow B T S.k v L.length (S.flat L)
structure Elem (P:Program) (T TS:TypeId) (bytes:Nat):Prop where
 ex:∃i0 z,P.info? T=some i0∧i0.zero=some z∧i0.size=S.k∧i0.bytes=bytes∧z.cells.size=S.k
 ts:P.underlying TS=some (.slice T)
variable {S}
theorem OwnR.nil (w:World)(T:TypeId)(B:Nat):OwnR S w T B (.slice none 0 0) []:=World.ownsRow_nil w B T S.k
theorem OwnR.blocks {w w' : World}{T:TypeId}{B:Nat}{v:Value}{L:List α}(h:OwnR S w T B v L)(hb:∀g,v.ownBlock=some g→B≤g→g<w.heap.size→w'.heap[g]?=w.heap[g]?):OwnR S w' T B v L:=by
 refine⟨h.1,?_⟩
 rcases h.2 with hn|⟨g,cap,cur,h1,h2,h3,h4⟩
 ·exact .inl hn
 ·exact .inr ⟨g,cap,cur,h1,h2,(hb g (by rw[h1];rfl) h2 (Array.getElem?_eq_some_iff.1 h3).1).trans h3,h4⟩
theorem OwnR.below {w w' : World}{T:TypeId}{B:Nat}{v:Value}{L:List α}(h:OwnR S w T B v L)(hb:Below w.heap.size w w'):OwnR S w' T B v L:=h.blocks fun g _ _ hg=>hb.block g hg
theorem OwnR.drew {w:World}{T:TypeId}{B:Nat}{v:Value}{L:List α}(h:OwnR S w T B v L):OwnR S w.drew T B v L:=h.blocks fun _ _ _ _=>rfl
theorem OwnR.mono {w:World}{T:TypeId}{B B' : Nat}{v:Value}{L:List α}(h:OwnR S w T B v L)(hB:B' ≤ B):OwnR S w T B' v L:=by
 refine⟨h.1,?_⟩
 rcases h.2 with hn|⟨g,cap,cur,h1,h2,h3,h4⟩
 ·exact .inl hn
 ·exact .inr ⟨g,cap,cur,h1,by omega,h3,h4⟩
theorem OwnR.lt {w:World}{T:TypeId}{B:Nat}{v:Value}{L:List α}(h:OwnR S w T B v L){g:Nat}(hg:v.ownBlock=some g):B≤g∧g<w.heap.size:=World.ownsRow.lt h g hg
theorem OwnR.cut {w:World}{T:TypeId}{B:Nat}{v:Value}{L:List α}(h:OwnR S w T B v L){n:Nat}(hn:L.length=n) :
  ∃p c,v = .slice p n c∧(p=none→c=0∧n=0)∧(∀x,p=some x→x.off=0∧x.spot=none∧B≤x.block∧x.block<w.heap.size)∧n≤c∧c≤maxLen∧Recs S w p L:=by
 subst hn
 rcases h.2 with⟨hv,hn⟩|⟨g,cap,cur,hv,hB,hg,hle,hm,hs,ht⟩
 ·obtain rfl:=List.length_eq_zero_iff.1 hn
  exact⟨none,0,hv,fun _=>⟨rfl,rfl⟩,fun x hx=>(by cases hx),(by simp),(by unfold maxLen;omega),Recs.nil _ _⟩
 ·refine⟨_,cap,hv,fun h=>by (cases h),fun x hx=>?_,hle,hm,⟨by omega,.inr ⟨g,0,rfl,(Array.getElem?_eq_some_iff.1 hg).1,fun j u hu=>?_⟩⟩⟩
  ·cases hx
   exact⟨rfl,rfl,hB,(Array.getElem?_eq_some_iff.1 hg).1⟩
  ·have hj:j<L.length*S.k:=by rw[← S.flat_len];exact(List.getElem?_eq_some_iff.1 hu).1
   have:=congrArg (fun l=>l[j]?) ht;simp only[List.getElem?_take,if_pos hj]at this;rw[hu]at this;rw[Nat.zero_add];simp only[World.cell?,hg]
   simpa using this
theorem OwnR.at {w:World}{T:TypeId}{B c n:Nat}{p:Option Addr}{L:List α}(h:OwnR S w T B (.slice p n c) L){k:Nat}(hk:k<L.length) :
  ∃g,p=some ⟨g,0,none⟩∧n=L.length∧B≤g∧g<w.heap.size∧(∀i u,(S.cells L[k])[i]?=some u→w.cell? ⟨g,k*S.k+i,none⟩=some u)∧(∀i,w.frozen? ⟨g,i,none⟩=false) ∧
    (∀i u a,i<S.k→S.cells a=(S.cells L[k]).set i u→OwnR S (w.setCell ⟨g,k*S.k+i,none⟩ u) T B (.slice p n c) (L.set k a)):=by
 have hl:=World.ownsRow.lt h
 rcases h.2 with⟨hv,hn⟩|⟨g,cap,cur,hv,hB,hg,hle,hm,hs,ht⟩
 ·omega
 ·simp only[Value.slice.injEq]at hv
  obtain⟨rfl,rfl,rfl⟩:=hv;have h' : w.ownsRow B T S.k (.slice (some ⟨g,0,none⟩) L.length c) L.length (S.flat L):=h;refine⟨g,rfl,rfl,hB,(hl g rfl).2,fun i u hu=>?_,fun i=>h'.frozenAt _,fun i u a hi ha=>?_⟩
  ·have hi:i<S.k:=by rw[← S.len L[k]];exact(List.getElem?_eq_some_iff.1 hu).1
   have hb:k*S.k+i<L.length*S.k:=by
    have:=Nat.mul_le_mul_right S.k (show k+1≤L.length by omega);rw[Nat.add_mul]at this;omega
   rw[h'.cellAt _ hb,S.flat_at L k hk i hi];exact hu
  ·have:=h'.stored (k*S.k+i) u
   rw[S.flat_set L k hk i hi u a ha]at this;unfold OwnR;rw[List.length_set];exact this.1
structure Appends (w w' : World) (B H:Nat) (v v' : Value):Prop where
 below:Below B w w'
 size:w.heap.size≤w'.heap.size
 far:∀k,k<w.heap.size→v.ownBlock≠some k→w'.heap[k]?=w.heap[k]?
 block:v'.ownBlock=v.ownBlock∨v'.ownBlock=some H
theorem Appends.keep {β:Type}{S' : Shape β}{w w' : World}{B H:Nat}{v v' : Value}(h:Appends w w' B H v v'){T:TypeId}{B' : Nat}{u:Value}{M:List β}(hu:OwnR S' w T B' u M)(hne:u.ownBlock=none∨u.ownBlock≠v.ownBlock):OwnR S' w' T B' u M :=
 hu.blocks fun g hg _ hl=>h.far g hl (by
  rcases hne with h|h
  ·rw[h]at hg;cases hg
  ·rw[hg]at h;exact fun e=>h e.symm)
theorem OwnR.append {P:Program}{T TS:TypeId}{bytes:Nat}(he:Elem S P T TS bytes){w:World}{ops:Array Oper}{rest:List Oper}{o:Oper}{a:Act}{Q:Exit→Act→World→Prop}(hgd:o.guard=none)(s x:Operand)
  (ho:o.op = .call { callee := .builtin .append,args:=#[s,x],argTypes:=#[TS,TS] }) (B:Nat) (v:Value) (L:List α) (y:α) (cs:Array Value) (hcs:cs.toList=S.cells y) (hown:OwnR S w T B v L) (hs:a.eval s=v)
  (hx:a.eval x = .slice (some ⟨w.heap.size,0,none⟩) 1 1) (hB:B≤w.heap.size) (hn:L.length<1073741824) (hby:bytes≤65536)
  (h:∀v' w', OwnR S w' T B v' (L ++ [y])→Appends w w' B (w.heap.size+1) v v' → wpList P ops Q rest (a.put o.dst v') w'):wpList P ops Q (o::rest) a (w.alloc (.cells cs T)):=by
 obtain⟨i0,z,e1,e2,e3,e4,e5⟩:=he.ex;have hb2:(L.length+1)*bytes≤1073741824*65536:=Nat.mul_le_mul (by omega) hby;refine wpList_append_own_at _ hgd s x TS ho B T i0 z S.k bytes he.ts e1 e2 e3 e4 e5 S.pos v L.length (S.flat L) hs (World.ownsRow.alloc hown _) ⟨w.heap.size,0,none⟩ 1 1 (S.cells y) hx (by rw[S.len];omega) ?_ (S.one y) (by unfold maxLen;omega) (by omega) (by simp;omega) ?_
 ·intro j u hu
  rw[Go.WideShapes.add_plain,Nat.zero_add,cwn];rw[← hcs]at hu
  simpa using hu
 intro v' w' h1 h2 _ h4;refine h v' w' ?_ ⟨(((brf B w).alloc hB _).grown h2 (by simp;omega) fun k hk=>(World.ownsRow.lt hown k hk).1),?_,fun k hk hne=>?_,by rw[World.size_alloc]at h4;exact h4⟩
 ·unfold OwnR
  rw[lap,S.flat_append,S.flat_single];exact h1
 ·have:=h2.size
  rw[World.size_alloc]at this;omega
 ·rw[h2.block k (by rw[World.size_alloc];omega) (fun e=>hne e.symm)]
  exact(((brf w.heap.size w).alloc mle _).block k hk)
theorem OwnR.appendAll {P:Program}{T TS:TypeId}{bytes:Nat}(he:Elem S P T TS bytes){w:World}{ops:Array Oper}{rest:List Oper}{o:Oper}{a:Act}{Q:Exit→Act→World→Prop}(hgd:o.guard=none)(s x:Operand)
  (ho:o.op = .call { callee := .builtin .append,args:=#[s,x],argTypes:=#[TS,TS] }) (B:Nat) (v:Value) (L M:List α) (p:Option Addr) (c n:Nat) (hM:M.length=n) (hown:OwnR S w T B v L) (hsrc:Recs S w p M) (hp:p=none→c=0) (hs:a.eval s=v)
  (hx:a.eval x = .slice p n c) (hB:B≤w.heap.size) (hn:L.length+n<1073741824) (hby:bytes≤65536)
  (h:∀v' w', OwnR S w' T B v' (L++M)→Appends w w' B w.heap.size v v' → wpList P ops Q rest (a.put o.dst v') w'):wpList P ops Q (o::rest) a w:=by
 subst hM;obtain⟨i0,z,e1,e2,e3,e4,e5⟩:=he.ex;have hb2:(L.length+M.length)*bytes≤1073741824*65536:=Nat.mul_le_mul (by omega) hby
 cases p with
 | none =>
   obtain rfl:=hp rfl;have hM:M = []:=by
    rcases hsrc.2 with h|⟨b,off,h,_⟩
    ·exact h
    ·cases h
   subst hM;exact wpList_append_own_none hgd s x TS ho B T i0 S.k he.ts e1 v L.length (S.flat L) hs hown hx (h v w (by rw[List.append_nil];exact hown) ⟨brf _ _,Nat.le_refl _,fun _ _ _=>rfl,.inl rfl⟩)
 | some ad =>
   refine wpList_append_own_at _ hgd s x TS ho B T i0 z S.k bytes he.ts e1 e2 e3 e4 e5 S.pos v L.length (S.flat L) hs hown ad M.length c (S.flat M) hx (S.flat_len M) ?_ (S.flat_ones M) (by unfold maxLen;omega) (by omega) hB ?_
   ·intro j u hu
    rcases hsrc.2 with rfl|⟨b', off', hp', hl,hc⟩
    ·simp[Shape.flat]at hu
    ·cases hp'
     rw[Go.WideShapes.add_plain];exact hc j u hu
   intro v' w' h1 h2 _ h4;refine h v' w' ?_ ⟨(brf B w).grown h2 hB fun k hk=>(World.ownsRow.lt hown k hk).1,h2.size,fun k hk hne=>h2.block k hk (fun e=>hne e.symm),h4⟩;unfold OwnR;rw[lap,S.flat_append];exact h1
theorem OwnR.setOther {w:World}{T:TypeId}{B:Nat}{v:Value}{L:List α}(h:OwnR S w T B v L){b i:Nat}(hne:v.ownBlock≠some b)(u:Value):OwnR S (w.setCell ⟨b,i,none⟩ u) T B v L :=
 h.blocks fun g hg _ _=>by
  have:b≠g:=fun e=>hne (by rw[hg,e])
  simp[World.setCell,Array.getElem?_modify,this]
end Go.Proofs.YtljibgchickcpaaGreatDoor
namespace Go.Proofs.YtljibgchickcpaaGreatDoor
open Go.RowKit Te
structure RT where
 op:Int
 num:Int
 more:Int
 p:Option Addr
 n:Nat
 c:Nat
def tCells (r:RT):List Value := [I O r.op,I O r.num,I O r.more,.slice r.p r.n r.c]
def ST:Shape RT:=⟨4,tCells,fun _=>rfl,by decide,fun a u hu=>by
 simp only[tCells,List.mem_cons,List.not_mem_nil,or_false]at hu
 rcases hu with rfl|rfl|rfl|rfl<;>rfl⟩
structure RT.Is (r:RT) (t:Tm):Prop where
 op:r.op=t.op
 num:r.num=t.num
 more:r.more=t.more
 n:r.n=t.kids.length
 c:r.n≤r.c
 z:r.p=none→r.c=0
def TmsAt (Q:Nat→Prop) (w:World):Nat→Option Addr→List Tm→Prop
 | 0,_,K=>K = []
 | d+1,p,K=>∃R:List RT,R.length=K.length∧Recs ST w p R∧(∀a,p=some a→K = []∨Q a.block)∧∀k (h:k<R.length) (h' : k<K.length),RT.Is R[k] K[k]∧TmsAt Q w d R[k].p K[k].kids
theorem TmsAt.nil (Q:Nat→Prop)(w:World)(d:Nat)(p:Option Addr):TmsAt Q w d p []:=by
 cases d with
 | zero=>rfl
 | succ d=>exact⟨[],rfl,Recs.nil _ _,fun _ _ => .inl rfl,fun k h=>by simp at h⟩
theorem Recs.blocks {α:Type}{S:Shape α}{w w' : World}{p:Option Addr}{L:List α}(h:Recs S w p L)(hs:w.heap.size≤w'.heap.size)(hp:∀a,p=some a→L = []∨w'.heap[a.block]?=w.heap[a.block]?):Recs S w' p L:=by
 refine⟨h.1,?_⟩
 rcases h.2 with e|⟨b,off,e,hl,hc⟩
 ·exact .inl e
 rcases hp _ e with e0|hp
 ·exact .inl e0
 ·exact .inr ⟨b,off,e,nll hl hs,fun n u hu=>(World.cell?_of_block (w:=w) (a:=⟨b,off+n,none⟩) hp).trans (hc n u hu)⟩
theorem Recs.lt {α:Type}{S:Shape α}{w:World}{p:Option Addr}{L:List α}(h:Recs S w p L)(h0:L ≠ []){a:Addr}(e:p=some a):a.block<w.heap.size:=by
 rcases h.2 with e0|⟨b,off,e1,hl,_⟩
 ·exact absurd e0 h0
 ·rw[e]at e1;cases e1;exact hl
theorem TmsAt.change {Q Q' : Nat→Prop}{w w' : World}(hs:w.heap.size≤w'.heap.size)(hb:∀b,Q b→b<w.heap.size→w'.heap[b]?=w.heap[b]?∧Q' b):∀{d:Nat} {p:Option Addr} {K:List Tm},TmsAt Q w d p K→TmsAt Q' w' d p K
 | 0,_,_,h=>h
 | d+1,p,K,⟨R,h1,h2,h3,h4⟩=>by
   have hR:K = []↔R = []:=by rw[← List.length_eq_zero_iff,← List.length_eq_zero_iff,h1]
   have key:∀a,p=some a→K = []∨(w'.heap[a.block]?=w.heap[a.block]?∧Q' a.block):=fun a e=>by
    rcases h3 a e with h|h
    ·exact .inl h
    ·by_cases h0:K = []
     ·exact .inl h0
     ·exact .inr (hb _ h (h2.lt (fun e=>h0 (hR.2 e)) e))
   refine⟨R,h1,h2.blocks hs fun a e=>(key a e).imp hR.1 And.left,fun a e=>(key a e).imp id And.right,fun k hk hk' => ⟨(h4 k hk hk').1,TmsAt.change hs hb (h4 k hk hk').2⟩⟩
theorem TmsAt.below {Q:Nat→Prop}{w w' : World}{d:Nat}{p:Option Addr}{K:List Tm}(h:TmsAt Q w d p K)(hb:Below w.heap.size w w'):TmsAt Q w' d p K:=h.change hb.size fun b q hl=>⟨hb.block b hl,q⟩
theorem TmsAt.deeper {Q:Nat→Prop}{w:World}:∀{d:Nat} {p:Option Addr} {K:List Tm},TmsAt Q w d p K→TmsAt Q w (d+1) p K
 | 0,_,_,h=>by cases (show _ = [] from h);exact TmsAt.nil _ _ _ _
 | _+1,_,_,⟨R,h1,h2,h3,h4⟩=>⟨R,h1,h2,h3,fun k hk hk' => ⟨(h4 k hk hk').1,(h4 k hk hk').2.deeper⟩⟩
theorem TmsAt.deep {Q:Nat→Prop}{w:World}{d e:Nat}{p:Option Addr}{K:List Tm}(h:TmsAt Q w d p K)(he:d≤e):TmsAt Q w e p K:=by
 induction he with
 | refl=>exact h
 | step _ ih=>exact ih.deeper
structure TCells (w:World) (b o:Nat) (r:RT):Prop where
 c0:w.cell? ⟨b,o,none⟩=some (I O r.op)
 c1:w.cell? ⟨b,o+1,none⟩=some (I O r.num)
 c2:w.cell? ⟨b,o+2,none⟩=some (I O r.more)
 c3:w.cell? ⟨b,o+3,none⟩=some (.slice r.p r.n r.c)
structure TV (Q:Nat→Prop) (w:World) (d:Nat) (r:RT) (t:Tm):Prop where
 is:r.Is t
 at_:TmsAt Q w d r.p t.kids
theorem TV.below {Q:Nat→Prop}{w w' : World}{d:Nat}{r:RT}{t:Tm}(h:TV Q w d r t)(hb:Below w.heap.size w w'):TV Q w' d r t:=⟨h.is,h.at_.below hb⟩
theorem TV.change {Q Q' : Nat→Prop}{w w' : World}{d:Nat}{r:RT}{t:Tm}(h:TV Q w d r t)(hs:w.heap.size≤w'.heap.size)(hb:∀b,Q b→b<w.heap.size→w'.heap[b]?=w.heap[b]?∧Q' b):TV Q' w' d r t:=⟨h.is,h.at_.change hs hb⟩
theorem TV.deep {Q:Nat→Prop}{w:World}{d e:Nat}{r:RT}{t:Tm}(h:TV Q w d r t)(he:d≤e):TV Q w e r t:=⟨h.is,h.at_.deep he⟩
theorem TmsAt.len {Q:Nat→Prop}{w:World}{d:Nat}{p:Option Addr}{K:List Tm}(h:TmsAt Q w d p K):K.length≤9223372036854775807:=by
 cases d with
 | zero=>cases (show _ = [] from h);simp
 | succ d=>obtain⟨R,h1,h2, -⟩:=h;rw[← h1];exact h2.len
theorem TmsAt.kid {Q:Nat→Prop}{w:World}{d:Nat}{p:Option Addr}{K:List Tm}(h:TmsAt Q w d p K){k:Nat}(hk:k<K.length) :
  ∃e b off r,d=e+1∧p=some ⟨b,off,none⟩∧b<w.heap.size∧TCells w b (off+k*4) r∧TV Q w e r K[k]:=by
 cases d with
 | zero=>cases (show _ = [] from h);simp at hk
 | succ d =>
   obtain⟨R,h1,h2,h3,h4⟩:=h;have hk' : k<R.length:=by omega
   obtain⟨b,off,e,hl,hc⟩:=h2.at hk'; exact⟨d,b,off,R[k],rfl,e,hl,⟨hc 0 _ rfl,hc 1 _ rfl,hc 2 _ rfl,hc 3 _ rfl⟩,(h4 k hk' hk).1,(h4 k hk' hk).2⟩
open Sc
def bCells (b:Brk):List Value := [I O b.up,I O b.rate]
def SBk:Shape Brk:=⟨2,bCells,fun _=>rfl,by decide,fun a u hu=>by
 simp only[bCells,List.mem_cons,List.not_mem_nil,or_false]at hu
 rcases hu with rfl|rfl<;>rfl⟩
theorem info_brk:(Tryz.prog.info? 143).map (fun i=>(i.zero,i.size,i.bytes))=some (some (.agg #[I O 0,I O 0]),2,16):=by kernel_rfl
theorem el_brk:Elem SBk Tryz.prog 143 110 16:=by
 obtain⟨i0,h1,h2,h3,h4⟩:=info_parts info_brk;exact⟨⟨i0,_,h1,h2,h3,h4,rfl⟩,Tryz.underlying110⟩
theorem SBk_at {w:World}{p:Option Addr}{L:List Brk}(h:Recs SBk w p L){k:Nat}(hk:k<L.length) :
  ∃b off x,p=some ⟨b,off,none⟩∧b<w.heap.size∧w.cell? ⟨b,off+k*2,none⟩=some (I O x.up)∧w.cell? ⟨b,off+k*2+1,none⟩=some (I O x.rate)∧Hid (L[k]=x):=by
 obtain⟨b,off,hp,hb,hc⟩:=h.at hk;exact⟨b,off,_,hp,hb,hc 0 _ rfl,hc 1 _ rfl,rfl⟩
structure RSx where
 num:Int
 nm:ByteArray
 t:RT
 bp:Option Addr
 bn:Nat
 bc:Nat
 least:Int
 ex:Int
 needs:Bool
def sCells (r:RSx):List Value := [I O r.num,.string r.nm,I O r.t.op,I O r.t.num,I O r.t.more,.slice r.t.p r.t.n r.t.c,.slice r.bp r.bn r.bc,I O r.least,I O r.ex,.bool r.needs]
def SSc:Shape RSx:=⟨10,sCells,fun _=>rfl,by decide,fun a u hu=>by
 simp only[sCells,List.mem_cons,List.not_mem_nil,or_false]at hu
 rcases hu with rfl|rfl|rfl|rfl|rfl|rfl|rfl|rfl|rfl|rfl<;>rfl⟩
theorem info_sch:(Tryz.prog.info? 112).map (fun i=>(i.zero,i.size,i.bytes))=some (some (.agg #[I O 0,.string ByteArray.empty,I O 0,I O 0,I O 0,.slice none 0 0,.slice none 0 0,I O 0,I O 0,.bool false]),10,120):=by kernel_rfl
theorem el_sch:Elem SSc Tryz.prog 112 52 120:=by
 obtain⟨i0,h1,h2,h3,h4⟩:=info_parts info_sch;exact⟨⟨i0,_,h1,h2,h3,h4,rfl⟩,Tryz.underlying52⟩
structure SV (Q:Nat→Prop) (w:World) (d:Nat) (r:RSx) (s:Sch):Prop where
 num:r.num=s.num
 nm:r.nm=s.nm
 t:TV Q w d r.t s.cond
 br:Recs SBk w r.bp s.br
 bn:r.bn=s.br.length
 bc:r.bn≤r.bc
 bz:r.bp=none→r.bc=0
 bq:∀a,r.bp=some a→s.br = []∨Q a.block
 least:r.least=s.least
 ex:r.ex=s.ex
 needs:r.needs=s.needs
theorem SV.change {Q Q' : Nat→Prop}{w w' : World}{d:Nat}{r:RSx}{s:Sch}(h:SV Q w d r s)(hs:w.heap.size≤w'.heap.size)(hb:∀b,Q b→b<w.heap.size→w'.heap[b]?=w.heap[b]?∧Q' b):SV Q' w' d r s:=by
 have key:∀a,r.bp=some a→s.br = []∨(w'.heap[a.block]?=w.heap[a.block]?∧Q' a.block):=fun a e=>by
  rcases h.bq a e with h1|h1
  ·exact .inl h1
  ·by_cases h0:s.br = []
   ·exact .inl h0
   ·exact .inr (hb _ h1 (h.br.lt h0 e))
 exact⟨h.num,h.nm,h.t.change hs hb,h.br.blocks hs fun a e=>(key a e).imp id And.left,h.bn,h.bc,h.bz,fun a e=>(key a e).imp id And.right,h.least,h.ex,h.needs⟩
theorem SV.below {Q:Nat→Prop}{w w' : World}{d:Nat}{r:RSx}{s:Sch}(h:SV Q w d r s)(hb:Below w.heap.size w w'):SV Q w' d r s:=h.change hb.size fun b q hl=>⟨hb.block b hl,q⟩
theorem SV.deep {Q:Nat→Prop}{w:World}{d e:Nat}{r:RSx}{s:Sch}(h:SV Q w d r s)(he:d≤e):SV Q w e r s:=⟨h.num,h.nm,h.t.deep he,h.br,h.bn,h.bc,h.bz,h.bq,h.least,h.ex,h.needs⟩
structure SsAt (Q:Nat→Prop) (w:World) (d:Nat) (p:Option Addr) (L:List Sch):Prop where
 ex:∃R:List RSx,R.length=L.length∧Recs SSc w p R∧∀k (h:k<R.length) (h' : k<L.length),SV Q w d R[k] L[k]
 q:∀a,p=some a→L = []∨Q a.block
theorem SsAt.change {Q Q' : Nat→Prop}{w w' : World}{d:Nat}{p:Option Addr}{L:List Sch}(h:SsAt Q w d p L)(hs:w.heap.size≤w'.heap.size)(hb:∀b,Q b→b<w.heap.size→w'.heap[b]?=w.heap[b]?∧Q' b):SsAt Q' w' d p L:=by
 obtain⟨⟨R,h1,h2,h3⟩,h4⟩:=h;have hR:L = []↔R = []:=by rw[← List.length_eq_zero_iff,← List.length_eq_zero_iff,h1]
 have key:∀a,p=some a→L = []∨(w'.heap[a.block]?=w.heap[a.block]?∧Q' a.block):=fun a e=>by
  rcases h4 a e with h|h
  ·exact .inl h
  ·by_cases h0:L = []
   ·exact .inl h0
   ·exact .inr (hb _ h (h2.lt (fun e=>h0 (hR.2 e)) e))
 exact⟨⟨R,h1,h2.blocks hs fun a e=>(key a e).imp hR.1 And.left,fun k a b=>(h3 k a b).change hs hb⟩,fun a e=>(key a e).imp id And.right⟩
theorem SsAt.below {Q:Nat→Prop}{w w' : World}{d:Nat}{p:Option Addr}{L:List Sch}(h:SsAt Q w d p L)(hb:Below w.heap.size w w'):SsAt Q w' d p L:=h.change hb.size fun b q hl=>⟨hb.block b hl,q⟩
theorem SsAt.len {Q:Nat→Prop}{w:World}{d:Nat}{p:Option Addr}{L:List Sch}(h:SsAt Q w d p L):L.length≤9223372036854775807:=by
 obtain⟨⟨R,h1,h2, -⟩, -⟩:=h;rw[← h1];exact h2.len
structure SCells (w:World) (b o:Nat) (r:RSx):Prop where
 c0:w.cell? ⟨b,o,none⟩=some (I O r.num)
 c1:w.cell? ⟨b,o+1,none⟩=some (.string r.nm)
 c2:w.cell? ⟨b,o+2,none⟩=some (I O r.t.op)
 c3:w.cell? ⟨b,o+3,none⟩=some (I O r.t.num)
 c4:w.cell? ⟨b,o+4,none⟩=some (I O r.t.more)
 c5:w.cell? ⟨b,o+5,none⟩=some (.slice r.t.p r.t.n r.t.c)
 c6:w.cell? ⟨b,o+6,none⟩=some (.slice r.bp r.bn r.bc)
 c7:w.cell? ⟨b,o+7,none⟩=some (I O r.least)
 c8:w.cell? ⟨b,o+8,none⟩=some (I O r.ex)
 c9:w.cell? ⟨b,o+9,none⟩=some (.bool r.needs)
theorem SCells.box (w:World)(r:RSx)(T:TypeId):SCells (w.alloc (.cells #[I O r.num,.string r.nm,I O r.t.op,I O r.t.num,I O r.t.more,.slice r.t.p r.t.n r.t.c,.slice r.bp r.bn r.bc,I O r.least,I O r.ex,.bool r.needs] T)) w.heap.size 0 r :=
 ⟨cwn _ _ _ 0,cwn _ _ _ 1,cwn _ _ _ 2,cwn _ _ _ 3,cwn _ _ _ 4,cwn _ _ _ 5,cwn _ _ _ 6,cwn _ _ _ 7,cwn _ _ _ 8,cwn _ _ _ 9⟩
theorem SsAt.at {Q:Nat→Prop}{w:World}{d:Nat}{p:Option Addr}{L:List Sch}(h:SsAt Q w d p L){k:Nat}(hk:k<L.length) :
  ∃b off r,p=some ⟨b,off,none⟩∧b<w.heap.size∧SCells w b (off+k*10) r∧SV Q w d r L[k]:=by
 obtain⟨⟨R,h1,h2,h3⟩, -⟩:=h;have hk' : k<R.length:=by omega
 obtain⟨b,off,e,hl,hc⟩:=h2.at hk'; exact⟨b,off,R[k],e,hl,⟨hc 0 _ rfl,hc 1 _ rfl,hc 2 _ rfl,hc 3 _ rfl,hc 4 _ rfl,hc 5 _ rfl,hc 6 _ rfl,hc 7 _ rfl,hc 8 _ rfl,hc 9 _ rfl⟩,h3 k hk' hk⟩
def BlockAt (w:World) (T:TypeId) (b:Nat) (cur:Array Value):Prop:=w.heap[b]?=some (.cells cur T (0,0))
variable {α:Type} {S:Shape α}
theorem OwnR.of_block {w:World}{T:TypeId}{B g cap:Nat}{cur:Array Value}{L:List α}(hb:BlockAt w T g cur)(hB:B≤g)(hl:L.length≤cap)(hm:cap≤maxLen)(hs:cur.size=cap*S.k)(ht:cur.toList.take (L.length*S.k)=S.flat L):OwnR S w T B (.slice (some ⟨g,0,none⟩) L.length cap) L :=
 ⟨S.flat_len L,.inr ⟨g,cap,cur,rfl,hB,hb,hl,hm,hs,ht⟩⟩
end Go.Proofs.YtljibgchickcpaaGreatDoor
namespace Go.Proofs.YtljibgchickcpaaGreatDoor
open Go.RowKit Sc
theorem OwnR.litB {α:Type}{S:Shape α}(w:World)(T:TypeId)(L:List α)(hl:L.length≤maxLen):OwnR S (w.alloc (.cells (S.flat L).toArray T)) T w.heap.size (.slice (some ⟨w.heap.size,0,none⟩) L.length L.length) L :=
 OwnR.of_block (cur:=(S.flat L).toArray) (World.alloc_heap_new _ _) mle mle hl (by simp[S.flat_len]) (by rw[List.take_of_length_le (by simp[S.flat_len])])
def As.detV (f:As.Fct) (width:Int):Int × Int:=if As.chk28 f width=0 then As.det f width else (0,0)
def As.DetG (v:Int × Int) (er:Int) (w:World) (e:Ending) (w' : World):Prop:=e = .returned (.tuple #[I O v.1,I O v.2,I O er])∧Below w.heap.size w w'
def As.limV (f:As.Fct) (width r:Int):Int × Bool :=
 if r=1 then (f.due,true) else if r=2 then (0,decide (f.season = -1)&&decide (f.kind=0)) else if r=3 then (0,decide (f.kind=4)) else if r=4 then (0,decide (f.kind=3)) else if r=5 then (0,decide (f.kind=2))
 else (As.accept f.decl f.area f.border width,decide (f.kind=1))
def As.LmG (v:Int × Bool) (w:World) (e:Ending) (w' : World):Prop:=e = .returned (.tuple #[I O v.1,.bool v.2])∧Below w.heap.size w w'
theorem reflimit28_any (f:As.Fct)(width r:Int)(w:World)(hf:As.FactOk f)(w0:0≤width)(w1:width≤200)(r1:1≤r)(r6:r≤6) :
  Calls Tryz.prog 112 #[.agg #[I O f.decl,I O f.due,I O f.season,I O f.kind,I O f.area,I O f.border],I O width,I O r] w (As.LmG (As.limV f width r) w):=by
 have d0:=hf.d0;have d1:=hf.d1;have hm:As.measB f.area f.border=true:=As.measB_iff.2 ⟨hf.a0,hf.a1,hf.b0,hf.b1⟩;clear hf;obtain⟨d,u,s,k,a,b⟩:=f;simp only at d0 d1 hm;have AC:=mh (fun (W:World)=>refaccept8_any d a b width W hm w0 w1 d0 d1);have HA:=mh (balloc mle (brf w.heap.size w) (.cells #[I O d,I O u,I O s,I O k,I O a,I O b] 105));clear d0 d1 hm w0 w1
 rcases (show r=1∨r=2∨r=3∨r=4∨r=5∨r=6 by omega) with rfl|rfl|rfl|rfl|rfl|rfl
 ·have EV:=mh (show As.limV ⟨d,u,s,k,a,b⟩ width 1=(u,true) from rfl)
  rw[EV.out]
  go_enter Tryz.func112,Tryz.ntmps112
  go_wp2
  go_ret2
  exact⟨rfl,HA.out⟩
 ·by_cases hs:s = -1
  ·subst hs
   have EV:=mh (show As.limV ⟨d,u, -1,k,a,b⟩ width 2=(0,k==0) from by unfold As.limV;simp;rfl);rw[EV.out]
   go_enter Tryz.func112,Tryz.ntmps112
   go_wp2
   go_quiet (fail)
   go_wp2
   go_ret2
   exact⟨rfl,bnext HA.out HA.out.size (drewN_below _ _)⟩
  ·have EV:=mh (show As.limV ⟨d,u,s,k,a,b⟩ width 2=(0,false) from by unfold As.limV;simp[hs])
   rw[EV.out];have hb:(s == -1)=false:=by simpa using hs
   clear hs
   go_enter Tryz.func112,Tryz.ntmps112
   go_wp2
   go_quiet (fail)
   go_wp2
   go_ret2
   exact⟨rfl,bnext HA.out HA.out.size (drewN_below _ _)⟩
 ·have EV:=mh (show As.limV ⟨d,u,s,k,a,b⟩ width 3=(0,k==4) from by unfold As.limV;simp;rfl)
  rw[EV.out]
  go_enter Tryz.func112,Tryz.ntmps112
  go_wp2
  go_quiet (fail)
  go_wp2
  go_ret2
  exact⟨rfl,bnext HA.out HA.out.size (drewN_below _ _)⟩
 ·have EV:=mh (show As.limV ⟨d,u,s,k,a,b⟩ width 4=(0,k==3) from by unfold As.limV;simp;rfl)
  rw[EV.out]
  go_enter Tryz.func112,Tryz.ntmps112
  go_wp2
  go_quiet (fail)
  go_wp2
  go_ret2
  exact⟨rfl,bnext HA.out HA.out.size (drewN_below _ _)⟩
 ·have EV:=mh (show As.limV ⟨d,u,s,k,a,b⟩ width 5=(0,k==2) from by unfold As.limV;simp;rfl)
  rw[EV.out]
  go_enter Tryz.func112,Tryz.ntmps112
  go_wp2
  go_quiet (fail)
  go_wp2
  go_ret2
  exact⟨rfl,bnext HA.out HA.out.size (drewN_below _ _)⟩
 ·have EV:=mh (show As.limV ⟨d,u,s,k,a,b⟩ width 6=(As.accept d a b width,k==1) from by unfold As.limV;simp;rfl)
  rw[EV.out];obtain⟨V,eV⟩:∃V,As.accept d a b width=V:=⟨_,rfl⟩;rw[eV]at AC ⊢;clear eV EV
  go_enter Tryz.func112,Tryz.ntmps112
  go_wp2_with (go_at_call 134;(with_reducible refine cmo (AC.out _) ?_);rintro e w1 ⟨rfl,hb1⟩;have HB1:=mh (bstep mle HA.out hb1);have C3:=mcell hb1 3;clear hb1)
  go_quiet (fail)
  go_wp2
  go_ret2
  exact⟨rfl,bnext HB1.out HB1.out.size (drewN_below _ _)⟩
def As.rpick (f:As.Fct) (width:Int):Nat→Int × Int
 | 0=>(f.decl,0)
 | n+1=>if (As.limV f width (n+1)).2=true∧(As.limV f width (n+1)).1<(As.rpick f width n).1 then ((As.limV f width (n+1)).1,n+1) else As.rpick f width n
theorem As.rpick_det {f:As.Fct}(width:Int)(h:As.FactOk f):As.rpick f width 6=As.det f width:=by
 have k0:=h.k0;have k1:=h.k1;clear h;obtain⟨d,u,s,k,a,b⟩:=f;simp only at k0 k1
 rcases (show k=0∨k=1∨k=2∨k=3∨k=4 by omega) with rfl|rfl|rfl|rfl|rfl
 ·by_cases hs:s = -1
  ·subst hs
   simp[As.rpick,As.limV,As.det,As.lim,As.det1]
  ·simp[As.rpick,As.limV,As.det,As.lim,As.det1,hs]
 all_goals simp[As.rpick,As.limV,As.det,As.lim,As.det1]
theorem refline28_any (f:As.Fct)(width:Int)(w:World) :
  Calls Tryz.prog 85 #[.agg #[I O f.decl,I O f.due,I O f.season,I O f.kind,I O f.area,I O f.border],I O width] w (As.DetG (As.detV f width) (As.chk28 f width) w):=by
 by_cases hc:As.chk28 f width=0
 rotate_left
 ·have EV:=mh (show As.detV f width=(0,0) from by unfold As.detV;rw[if_neg hc])
  obtain⟨V,eV⟩:∃V,As.detV f width=V:=⟨_,rfl⟩;rw[eV]at EV ⊢;clear eV;obtain⟨d,u,s,k,a,b⟩:=f;have CK:=mh (fun (W:World)=>refcheck28_any d u s k a b width W);have HA:=mh (balloc mle (brf w.heap.size w) (.cells #[I O d,I O u,I O s,I O k,I O a,I O b] 105));obtain⟨v,ev⟩:∃v,As.chk28 ⟨d,u,s,k,a,b⟩ width=v:=⟨_,rfl⟩;rw[ev]at CK hc ⊢;clear ev;have hne:(v != 0)=true:=by simpa using hc
  clear hc
  go_enter Tryz.func85,Tryz.ntmps85
  go_wp2_with (go_at_call 111;(with_reducible refine cmo (CK.out _) ?_);rintro e w1 ⟨rfl,hb1⟩;have HB1:=mh (bstep mle HA.out hb1);have C0:=mcell hb1 0;have C1:=mcell hb1 1;have C2:=mcell hb1 2;have C3:=mcell hb1 3;have C4:=mcell hb1 4;have C5:=mcell hb1 5;have S1:=mh (show w.heap.size<w1.heap.size from nll (by simp) hb1.size);clear hb1)
  go_ret3
  exact⟨by rw[EV.out];rfl,HB1.out⟩
 ·obtain⟨hf,w0,w1⟩:=As.chk28_zero hc
  have EV:=mh (show As.detV f width=As.rpick f width 6 from by unfold As.detV;rw[if_pos hc,As.rpick_det width hf]);have LM:=mh (fun (W:World) (r:Int) (r1:1≤r) (r6:r≤6)=>reflimit28_any f width r W hf w0 w1 r1 r6);obtain⟨V,eV⟩:∃V,As.detV f width=V:=⟨_,rfl⟩;rw[eV]at EV ⊢;clear eV hf w0 w1;rw[hc];obtain⟨F,eF⟩:∃F:As.Fct,f=F:=⟨_,rfl⟩;have PS:=mh (fun n:Nat=>show As.rpick F width (n+1)=if (As.limV F width (n+1)).2=true∧(As.limV F width (n+1)).1<(As.rpick F width n).1 then ((As.limV F width (n+1)).1,(n+1:Int)) else As.rpick F width n from rfl);have P0:=mh (show As.rpick F width 0=(f.decl,0) from by rw[← eF];rfl);obtain⟨G,eG⟩:∃G,As.rpick F width=G:=⟨_,rfl⟩;obtain⟨LV,eLV⟩:∃LV,As.limV F width=LV:=⟨_,rfl⟩;have LM2:=mh (fun (W:World) (r:Int) (r1:1≤r) (r6:r≤6)=>show Calls Tryz.prog 112 #[.agg #[I O f.decl,I O f.due,I O f.season,I O f.kind,I O f.area,I O f.border],I O width,I O r] W (As.LmG (LV r) W) from by rw[← eLV,← eF];exact LM.out W r r1 r6);rw[eF,eG]at EV;rw[eG]at PS P0;rw[eLV]at PS;clear LM;obtain⟨d,u,s,k,a,b⟩:=f;have CK:=mh (fun (W:World)=>refcheck28_any d u s k a b width W);rw[hc]at CK;clear hc eF eG eLV;simp only at LM2 P0;have HA:=mh (balloc mle (brf w.heap.size w) (.cells #[I O d,I O u,I O s,I O k,I O a,I O b] 105))
  go_enter Tryz.func85,Tryz.ntmps85
  go_wp2_with (go_at_call 111;(with_reducible refine cmo (CK.out _) ?_);rintro e w1 ⟨rfl,hb1⟩;have HB1:=mh (bstep mle HA.out hb1);have C0:=mcell hb1 0;have C1:=mcell hb1 1;have C2:=mcell hb1 2;have C3:=mcell hb1 3;have C4:=mcell hb1 4;have C5:=mcell hb1 5;have S1:=mh (show w.heap.size<w1.heap.size from nll (by simp) hb1.size);clear hb1)
  go_loopw [8,9,10] (fun x y i wr=>∃n:Nat,n≤6∧i=I O ((n:Int)+1)∧x=I O (G n).1∧y=I O (G n).2∧Below w1.heap.size w1 wr) (fun _ _ i _=>7 - (intOf i).toNat)
  case atStart=>exact⟨0,by omega,rfl,by rw[P0.out],by rw[P0.out],brf _ _⟩
  case round =>
   obtain⟨wo,rfl⟩:∃wo:World,wo=wr:=⟨_,rfl⟩;obtain⟨n,hn,rfl,rfl,rfl,hb⟩:=hrel;have HB:=mh hb;have hn0:(0:Int)≤(n:Int):=inn _
   by_cases hlt:n<6
   ·have hn1:(n:Int)<6:=by omega
    have L1:=mh (fun (W:World)=>LM2.out W ((n:Int)+1) (by omega) (by omega));have K0:=(hb.cell (p:=⟨w.heap.size,0,none⟩) S1.out).trans C0;have K1:=(hb.cell (p:=⟨w.heap.size,1,none⟩) S1.out).trans C1;have K2:=(hb.cell (p:=⟨w.heap.size,2,none⟩) S1.out).trans C2;have K3:=(hb.cell (p:=⟨w.heap.size,3,none⟩) S1.out).trans C3;have K4:=(hb.cell (p:=⟨w.heap.size,4,none⟩) S1.out).trans C4;have K5:=(hb.cell (p:=⟨w.heap.size,5,none⟩) S1.out).trans C5;have PN:=PS.out n;obtain⟨v,ok,ev⟩:∃v ok,LV ((n:Int)+1)=(v,ok):=⟨_,_,rfl⟩;obtain⟨A,R,eA⟩:∃A R,G n=(A,R):=⟨_,_,rfl⟩;rw[ev]at L1 PN;rw[eA]at PN ⊢;simp only at PN ⊢;clear hb ev;have EA:=mh eA;clear eA
    cases ok
    ·have P:=mh (show G (n+1)=(A,R) from by rw[PN,if_neg (by simp)])
     clear PN
     go_wp2_with (go_at_call 112;(with_reducible refine cmo (L1.out _) ?_);rintro e w2 ⟨rfl,hb2⟩;have HB2:=mh (bstep mle HB.out hb2);clear hb2)
     go_roundw
     case rel=>exact⟨n+1,by omega,by go_num,by rw[P.out],by rw[P.out],HB2.out⟩
     case measure=>simp[intOf];omega
    ·by_cases hcmp:v<A
     ·have P:=mh (show G (n+1)=(v,(n:Int)+1) from by rw[PN,if_pos ⟨rfl,hcmp⟩])
      clear PN
      go_wp2_with (go_at_call 112;(with_reducible refine cmo (L1.out _) ?_);rintro e w2 ⟨rfl,hb2⟩;have HB2:=mh (bstep mle HB.out hb2);clear hb2)
      go_roundw
      case rel=>exact⟨n+1,by omega,by go_num,by rw[P.out],by rw[P.out],HB2.out⟩
      case measure=>simp[intOf];omega
     ·have P:=mh (show G (n+1)=(A,R) from by rw[PN,if_neg (fun h=>hcmp h.2)])
      clear PN
      go_wp2_with (go_at_call 112;(with_reducible refine cmo (L1.out _) ?_);rintro e w2 ⟨rfl,hb2⟩;have HB2:=mh (bstep mle HB.out hb2);clear hb2)
      go_roundw
      case rel=>exact⟨n+1,by omega,by go_num,by rw[P.out],by rw[P.out],HB2.out⟩
      case measure=>simp[intOf];omega
   ·obtain rfl:n=6:=by omega
    have HB3:=mh (bstep mle HB1.out hb);clear hb
    go_wp2
    go_ret3
    exact⟨by rw[EV.out];rfl,HB3.out⟩
end Go.Proofs.YtljibgchickcpaaGreatDoor
namespace Go.Proofs.YtljibgchickcpaaGreatDoor.Sh
/-! ### sums -/
def sum:List Int→Int
 | []=>0
 | x::l=>x+sum l
theorem sum_append (l m:List Int):sum (l++m)=sum l+sum m:=by
 induction l with
 | nil=>simp[sum]
 | cons x l ih=>simp only[List.cons_append,sum,ih];omega
theorem sum_snoc (l:List Int)(x:Int):sum (l ++ [x])=sum l+x:=by rw[sum_append];simp[sum]
end Go.Proofs.YtljibgchickcpaaGreatDoor.Sh
