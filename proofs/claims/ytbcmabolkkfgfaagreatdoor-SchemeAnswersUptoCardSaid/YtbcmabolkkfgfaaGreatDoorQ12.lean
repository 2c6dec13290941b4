/- Packed. -/
import Derived.Test.YtbcmabolkkfgfaaGreatDoorQ11
set_option maxRecDepth 100000
set_option maxHeartbeats 8000000
open Go.Value renaming int → I
open Go.IntKind renaming i64 → O
namespace Go.Proofs.YtbcmabolkkfgfaaGreatDoor
open Go.RowKit Te
theorem unm_letter (s:List UInt8):letter s=match Cr.unm s with|some k=>if single (k:Int)=true then some (k:Int) else none|none=>none:=by
 have h1:∀k,k<32→single ((k:Nat):Int)=true→letter (Cr.mword k)=some (k:Int):=fun k _ h=>letter_mword h
 cases e:Cr.unm s with
 | some k =>
   obtain⟨hk,hs⟩:=Cr.unm_some e;simp only
   by_cases h:single (k:Int)=true
   ·rw[if_pos h,← hs,h1 k hk h]
   ·rw[if_neg h]
    have h2:∀k,k<32→¬single ((k:Nat):Int)=true→letter (Cr.mword k)=none:=by decide +kernel
    rw[← hs];exact h2 k hk h
 | none =>
   simp only;unfold letter
   split
   ·next c =>
    split
    ·rfl
    ·next hc =>
     exfalso
     have:Cr.mword (Cr.markOf c) = [c]:=by
      unfold Cr.markOf at hc ⊢
      split
      ·next h=>subst h;decide +kernel
      split
      ·next h=>subst h;decide +kernel
      split
      ·next h=>subst h;decide +kernel
      split
      ·next h=>subst h;decide +kernel
      split
      ·next h=>subst h;decide +kernel
      ·simp_all
     have h3:=Cr.unm_mword (Cr.markOf_lt c);rw[this,e]at h3
     cases h3
   ·rfl
def LetG (s:List UInt8) (w:World) (e:Ending) (w' : World):Prop:=∃v:Int,e = .returned (.tuple #[I O v,.bool (letter s).isSome])∧(∀m,letter s=some m→v=m)∧Below w.heap.size w w'
theorem refletter_any (s:ByteArray)(w:World):Calls Tryz.prog 111 #[.string s] w (LetG s.data.toList w):=by
 have UM:=mh (unmarks_any s w);have HL:=mh (unm_letter s.data.toList);have SN:=mh (fun x W=>refsingle_any x W);unfold UnmGive at UM
 cases e:Cr.unm s.data.toList with
 | none =>
   have UM:=mh (show Calls Tryz.prog 131 #[.string s] w (fun e w' => e = .returned (.tuple #[I O 0,.bool false])∧Below w.heap.size w w') by
    have h:=UM.out;unfold unmV at h;rw[e]at h
    exact h)
   have HN:=mh (show letter s.data.toList=none by rw[HL.out,e]);clear e HL
   go_enter Tryz.func111,Tryz.ntmps111
   go_wp2_with (first|(go_at_call 131;(with_reducible refine cmo UM.out ?_);rintro e w1 ⟨rfl,hb1⟩))
   go_ret2
   exact⟨0,by rw[HN.out];rfl,(fun m h=>by rw[HN.out]at h;cases h),hb1⟩
 | some k =>
   have UM:=mh (show Calls Tryz.prog 131 #[.string s] w (fun e w' => e = .returned (.tuple #[I O (k:Int),.bool true])∧Below w.heap.size w w') by
    have h:=UM.out;unfold unmV at h;rw[e]at h
    exact h)
   have HN:=mh (show letter s.data.toList=if single (k:Int)=true then some (k:Int) else none by rw[HL.out,e]);clear e HL;obtain⟨K,eK⟩:∃K:Int,(k:Int)=K:=⟨_,rfl⟩;rw[eK]at UM HN;have SN1:=mh (SN.out K);obtain⟨b,eb⟩:∃b,single K=b:=⟨_,rfl⟩;rw[eb]at SN1 HN;clear eb eK
   go_enter Tryz.func111,Tryz.ntmps111
   go_wp2_with (first|(go_at_call 131;(with_reducible refine cmo UM.out ?_);rintro e w1 ⟨rfl,hb1⟩)|(go_at_call 118;(with_reducible refine cmo (SN1.out _) ?_);rintro e w2 ⟨rfl,rfl⟩))
   go_ret2
   refine⟨K,?_,(fun m h=>?_),hb1⟩
   ·rw[HN.out];cases b<;>rfl
   ·rw[HN.out]at h;cases b<;>simp at h;exact h
/-! ### the block of a term -/
structure TB (b:Nat) (W:World) (x0 x1 x2 x3:Value):Prop where
 c0:W.cell? ⟨b,0,none⟩=some x0
 c1:W.cell? ⟨b,1,none⟩=some x1
 c2:W.cell? ⟨b,2,none⟩=some x2
 c3:W.cell? ⟨b,3,none⟩=some x3
 f0:W.frozen? ⟨b,0,none⟩=false
 f1:W.frozen? ⟨b,1,none⟩=false
 f2:W.frozen? ⟨b,2,none⟩=false
 f3:W.frozen? ⟨b,3,none⟩=false
 lt:b<W.heap.size
theorem Res4.tb {b:Nat}{W:World}(h:Res4 b W):TB b W (I O 0) (I O 0) (I O 0) (.slice none 0 0):=⟨h.c0,h.c1,h.c2,h.c3,h.f0,h.f1,h.f2,h.f3,h.lt⟩
theorem TB.blk {b:Nat}{W W' : World}{x0 x1 x2 x3:Value}(h:TB b W x0 x1 x2 x3)(hs:W.heap.size≤W'.heap.size)(e:W'.heap[b]?=W.heap[b]?):TB b W' x0 x1 x2 x3:=by
 have c:∀i,W'.cell? ⟨b,i,none⟩=W.cell? ⟨b,i,none⟩:=fun i=>World.cell?_of_block (w:=W) e
 have f:∀i,W'.frozen? ⟨b,i,none⟩=W.frozen? ⟨b,i,none⟩:=fun i=>by simp only[World.frozen?,e]
 exact⟨(c 0).trans h.c0,(c 1).trans h.c1,(c 2).trans h.c2,(c 3).trans h.c3,(f 0).trans h.f0,(f 1).trans h.f1,(f 2).trans h.f2,(f 3).trans h.f3,nll h.lt hs⟩
theorem TB.below {b:Nat}{W W' : World}{x0 x1 x2 x3:Value}(h:TB b W x0 x1 x2 x3)(hb:Below W.heap.size W W'):TB b W' x0 x1 x2 x3:=h.blk hb.size (hb.block b h.lt)
theorem TB.belowB {b B:Nat}{W W' : World}{x0 x1 x2 x3:Value}(h:TB b W x0 x1 x2 x3)(hb:Below B W W')(hB:b<B):TB b W' x0 x1 x2 x3:=h.blk hb.size (hb.block b hB)
theorem setCell_other (W:World)(b i k:Nat)(v:Value)(h:k≠b):(W.setCell ⟨b,i,none⟩ v).heap[k]?=W.heap[k]?:=by
 simp[World.setCell,Array.getElem?_modify,Ne.symm h]
theorem sizeCell17 (W:World)(b i:Nat)(v:Value):(W.setCell ⟨b,i,none⟩ v).heap.size=W.heap.size:=by simp[World.setCell]
theorem TB.far {b k i:Nat}{W:World}{x0 x1 x2 x3:Value}(h:TB b W x0 x1 x2 x3)(hne:b≠k)(v:Value):TB b (W.setCell ⟨k,i,none⟩ v) x0 x1 x2 x3 :=
 h.blk (by rw[sizeCell17];exact Nat.le_refl _) (setCell_other W k i b v hne)
theorem TB.set0 {b:Nat}{W:World}{x0 x1 x2 x3:Value}(h:TB b W x0 x1 x2 x3)(v:Value):TB b (W.setCell ⟨b,0,none⟩ v) v x1 x2 x3 :=
 ⟨World.cell?_setCell_same _ _ _ h.c0,(World.cell?_setCell_other _ _ _ _ (fun e=>by cases e)).trans h.c1,(World.cell?_setCell_other _ _ _ _ (fun e=>by cases e)).trans h.c2,(World.cell?_setCell_other _ _ _ _ (fun e=>by cases e)).trans h.c3,
  (World.frozen?_setCell _ _ _ _).trans h.f0,(World.frozen?_setCell _ _ _ _).trans h.f1,(World.frozen?_setCell _ _ _ _).trans h.f2,(World.frozen?_setCell _ _ _ _).trans h.f3,by rw[sizeCell17];exact h.lt⟩
theorem TB.set1 {b:Nat}{W:World}{x0 x1 x2 x3:Value}(h:TB b W x0 x1 x2 x3)(v:Value):TB b (W.setCell ⟨b,1,none⟩ v) x0 v x2 x3 :=
 ⟨(World.cell?_setCell_other _ _ _ _ (fun e=>by cases e)).trans h.c0,World.cell?_setCell_same _ _ _ h.c1,(World.cell?_setCell_other _ _ _ _ (fun e=>by cases e)).trans h.c2,(World.cell?_setCell_other _ _ _ _ (fun e=>by cases e)).trans h.c3,
   (World.frozen?_setCell _ _ _ _).trans h.f0,(World.frozen?_setCell _ _ _ _).trans h.f1,(World.frozen?_setCell _ _ _ _).trans h.f2,(World.frozen?_setCell _ _ _ _).trans h.f3,by rw[sizeCell17];exact h.lt⟩
theorem TB.set2 {b:Nat}{W:World}{x0 x1 x2 x3:Value}(h:TB b W x0 x1 x2 x3)(v:Value):TB b (W.setCell ⟨b,2,none⟩ v) x0 x1 v x3 :=
 ⟨(World.cell?_setCell_other _ _ _ _ (fun e=>by cases e)).trans h.c0,(World.cell?_setCell_other _ _ _ _ (fun e=>by cases e)).trans h.c1,World.cell?_setCell_same _ _ _ h.c2,(World.cell?_setCell_other _ _ _ _ (fun e=>by cases e)).trans h.c3,
   (World.frozen?_setCell _ _ _ _).trans h.f0,(World.frozen?_setCell _ _ _ _).trans h.f1,(World.frozen?_setCell _ _ _ _).trans h.f2,(World.frozen?_setCell _ _ _ _).trans h.f3,by rw[sizeCell17];exact h.lt⟩
theorem TB.set3 {b:Nat}{W:World}{x0 x1 x2 x3:Value}(h:TB b W x0 x1 x2 x3)(v:Value):TB b (W.setCell ⟨b,3,none⟩ v) x0 x1 x2 v :=
 ⟨(World.cell?_setCell_other _ _ _ _ (fun e=>by cases e)).trans h.c0,(World.cell?_setCell_other _ _ _ _ (fun e=>by cases e)).trans h.c1,(World.cell?_setCell_other _ _ _ _ (fun e=>by cases e)).trans h.c2,World.cell?_setCell_same _ _ _ h.c3,
   (World.frozen?_setCell _ _ _ _).trans h.f0,(World.frozen?_setCell _ _ _ _).trans h.f1,(World.frozen?_setCell _ _ _ _).trans h.f2,(World.frozen?_setCell _ _ _ _).trans h.f3,by rw[sizeCell17];exact h.lt⟩
theorem TB.res {b:Nat}{W:World}{x0 x1 x2 x3:Value}(h:TB b W x0 x1 x2 x3)(y0 y1 y2 y3:Value):TB b (put4 W b y0 y1 y2 y3) y0 y1 y2 y3:=(((h.set0 y0).set1 y1).set2 y2).set3 y3
/-! ### what read gives -/
def ReadBad (w:World) (e:Ending) (w' : World):Prop:=∃(row:RT) (p:Option Addr) (n c:Nat),e = .returned (.tuple #[.agg #[I O row.op,I O row.num,I O row.more,.slice row.p row.n row.c],.slice p n c,.bool false])∧Below w.heap.size w w'
def ReadGood (b:Nat) (t:Tm) (r:List (List UInt8)) (w:World) (e:Ending) (w' : World):Prop:=∃(row:RT) (p:Option Addr) (c d:Nat),e = .returned (.tuple #[.agg #[I O row.op,I O row.num,I O row.more,.slice row.p row.n row.c],.slice p r.length c,.bool true])∧TV (NewQ w.heap.size) w' d row t∧WSl w' p c (r.map bs)∧(∀a,p=some a→r = []∨a.block=b)∧Below w.heap.size w w'
def ReadG (b:Nat) (o:Option (Tm × List (List UInt8))) (w:World):Ending→World→Prop:=match o with|none=>ReadBad w|some (t,r)=>ReadGood b t r w
def ReadAt (f:Nat):Prop:=∀(p:Option Addr) (c:Nat) (ws:List ByteArray) (w:World) (b:Nat),WSl w p c ws→(∀a,p=some a→ws = []∨a.block=b)→b<w.heap.size→(∀x∈ws,x.size≤16384)→ws.length≤1000000→2*ws.length≤f →
 Calls Tryz.prog 83 #[.slice p ws.length c] w (ReadG b (readT f (ll ws)) w)
theorem read_bad {w W:World}(row:RT)(p:Option Addr)(n c:Nat)(hb:Below w.heap.size w W):ReadBad w (.returned (.tuple #[.agg #[I O row.op,I O row.num,I O row.more,.slice row.p row.n row.c],.slice p n c,.bool false])) (put4 W w.heap.size (I O row.op) (I O row.num) (I O row.more) (.slice row.p row.n row.c)) :=
 ⟨row,p,n,c,rfl,hb.trans (put4_below mle _ _ _ _)⟩
theorem read_good {w W:World}{t:Tm}{r:List (List UInt8)}{row:RT}{p:Option Addr}{b c d:Nat}(hb:Below w.heap.size w W)(hbl:b<w.heap.size)(hw:WSl W p c (r.map bs))(hp:∀a,p=some a→r = []∨a.block=b)(hv:TV (NewQ (w.heap.size+1)) W d row t) :
  ReadGood b t r w (.returned (.tuple #[.agg #[I O row.op,I O row.num,I O row.more,.slice row.p row.n row.c],.slice p r.length c,.bool true])) (put4 W w.heap.size (I O row.op) (I O row.num) (I O row.more) (.slice row.p row.n row.c)):=by
 have hs:=put4_block W w.heap.size (I O row.op) (I O row.num) (I O row.more) (.slice row.p row.n row.c);refine⟨row,p,c,d,rfl,hv.change (by rw[hs.1];exact Nat.le_refl _) fun b hq _=>⟨hs.2 b (by unfold NewQ at hq;omega),by unfold NewQ at *;omega⟩,⟨hw.recs.blocks (by rw[hs.1];exact Nat.le_refl _) fun a ea=>?_,hw.le,hw.nn⟩,hp,hb.trans (put4_below mle _ _ _ _)⟩
 rcases hp a ea with h|h
 ·exact .inl (by rw[h];rfl)
 ·exact .inr (hs.2 _ (by omega))
theorem ReadBad.alloc {w W:World}{e:Ending}(h:ReadBad w e W)(hz:w.heap.size≤W.heap.size)(o:Obj):ReadBad w e (W.alloc o):=by
 obtain⟨row,p,n,c,he,hb⟩:=h;exact⟨row,p,n,c,he,hb.alloc hz o⟩
theorem read_not {w w2:World}{k:Tm}{r:List (List UInt8)}{row:RT}{p:Option Addr}{b c d:Nat}{T:TypeId}(hb:Below w.heap.size w w2)(hbl:b<w.heap.size)(hz:w.heap.size+1<w2.heap.size)(hw:WSl w2 p c (r.map bs))(hp:∀a,p=some a→r = []∨a.block=b)(hv:TV (NewQ (w.heap.size+2)) w2 d row k) :
  ReadGood b (.mk 11 0 0 [k]) r w (.returned (.tuple #[.agg #[I O 11,I O 0,I O 0,.slice (some ⟨w2.heap.size+1,0,none⟩) 1 1],.slice p r.length c,.bool true]))
   (((put4 (w2.setCell ⟨w.heap.size+1,3,none⟩ (.slice (some ⟨w2.heap.size+1,0,none⟩) 1 1)) w.heap.size (I O 11) (I O 0) (I O 0) (.slice (some ⟨w2.heap.size+1,0,none⟩) 1 1)).alloc (.cells #[I O row.op,I O row.num,I O row.more,.slice row.p row.n row.c] T)).alloc (.cells #[I O row.op,I O row.num,I O row.more,.slice row.p row.n row.c] T)):=by
 obtain⟨S,eS⟩:∃S:Value,S = .slice (some ⟨w2.heap.size+1,0,none⟩) 1 1:=⟨_,rfl⟩;rw[← eS];obtain⟨X,eX⟩:∃X,X=put4 (w2.setCell ⟨w.heap.size+1,3,none⟩ S) w.heap.size (I O 11) (I O 0) (I O 0) S:=⟨_,rfl⟩;have hblk:=put4_block (w2.setCell ⟨w.heap.size+1,3,none⟩ S) w.heap.size (I O 11) (I O 0) (I O 0) S;rw[← eX]at hblk ⊢;have hXs:X.heap.size=w2.heap.size:=by rw[hblk.1,sizeCell17]
 have hXb:∀g,g≠w.heap.size→g≠w.heap.size+1→X.heap[g]?=w2.heap[g]?:=fun g h1 h2=>(hblk.2 g h1).trans (setCell_other _ _ _ _ _ h2)
 have hXB:Below w.heap.size w X:=by
  rw[eX];exact(hb.setCell (Nat.le_succ _) _).trans (put4_below mle _ _ _ _)
 obtain⟨Y,eY⟩:∃Y,Y=X.alloc (.cells #[I O row.op,I O row.num,I O row.more,.slice row.p row.n row.c] T):=⟨_,rfl⟩;have hA1:Below X.heap.size X Y:=by rw[eY];exact(brf _ _).alloc mle _
 have hYs:Y.heap.size=w2.heap.size+1:=by rw[eY,World.size_alloc,hXs]
 rw[← eY];have hA2:Below Y.heap.size Y (Y.alloc (.cells #[I O row.op,I O row.num,I O row.more,.slice row.p row.n row.c] T)):=(brf _ _).alloc mle _;have hXY:Below X.heap.size X (Y.alloc (.cells #[I O row.op,I O row.num,I O row.more,.slice row.p row.n row.c] T)):=bstep mle hA1 hA2;refine⟨⟨11,0,0,some ⟨w2.heap.size+1,0,none⟩,1,1⟩,p,c,d+1,by rw[eS],⟨⟨rfl,rfl,rfl,rfl,Nat.le_refl _,fun e=>by cases e⟩, [row],rfl,?_,fun a e => .inr (by cases e;show w.heap.size≤w2.heap.size+1;omega),fun j hj hj' => ?_⟩,⟨?_,hw.le,hw.nn⟩,hp,bstep mle hXB hXY⟩
 ·have:=Recs.lit (S:=ST) Y T [row] (by show 1≤_;unfold maxLen;omega)
  rw[hYs]at this;exact this
 ·have:j=0:=by simp at hj;exact hj
  subst this;have h1:TV (NewQ w.heap.size) X d row k:=hv.change (by rw[hXs];exact Nat.le_refl _) fun g hq _=>⟨hXb g (by unfold NewQ at hq;omega) (by unfold NewQ at hq;omega),by unfold NewQ at *;omega⟩
  exact⟨h1.is,h1.at_.below hXY⟩
 ·refine(hw.recs.blocks (w' := X) (by rw[hXs];exact Nat.le_refl _) fun a ea=>?_).below hXY
  rcases hp a ea with h|h
  ·exact .inl (by rw[h];rfl)
  ·exact .inr (hXb _ (by omega) (by omega))
def TapeTerm (t:Nat) (l:List Int) (D:Nat) (w:World) (e:Ending) (w' : World):Prop :=
 ∃(row:RT) (tm:Tm) (d q:Nat),e = .returned (.agg #[I O row.op,I O row.num,I O row.more,.slice row.p row.n row.c])∧TV (NewQ w.heap.size) w' d row tm∧count tm<2 ^ (D+1)∧TapeAt w' t l q∧But t w w'
theorem term_leaf {t:Nat}{l:List Int}{D q:Nat}{w W:World}(o n m:Int)(hb:But t w W)(ht:TapeAt W t l q):TapeTerm t l D w (.returned (.agg #[I O o,I O n,I O m,.slice none 0 0])) W :=
 ⟨⟨o,n,m,none,0,0⟩,.mk o n m [],0,q,rfl,⟨⟨rfl,rfl,rfl,rfl,Nat.le_refl _,fun _=>rfl⟩,TmsAt.nil _ _ _ _⟩,by rw[count,countL];have:=Nat.one_lt_two_pow (n:=D+1) (by omega);omega,ht,hb⟩
theorem term_kids {t:Nat}{l:List Int}{D q:Nat}{w w3:World}(hb:But t w w3)(ht:TapeAt w3 t l q)(htw:t<w.heap.size)(o:Int)(R:List RT)(K:List Tm)(d n:Nat)(hlen:R.length=K.length)(hn:R.length=n)(hn2:n≤2)
  (hR:∀k (h:k<R.length) (h' : k<K.length),TV (NewQ (w.heap.size+1)) w3 d R[k] K[k]) (hz:w.heap.size<w3.heap.size) (hc:countL K+1<2 ^ (D+1)) (T:TypeId) :
  TapeTerm t l D w (.returned (.agg #[I O o,I O 0,I O 0,.slice (some ⟨w3.heap.size,0,none⟩) n n]))
   ((put4 w3 w.heap.size (I O o) (I O 0) (I O 0) (.slice (some ⟨w3.heap.size,0,none⟩) n n)).alloc (.cells (ST.flat R).toArray T)):=by
 obtain⟨S,eS⟩:∃S:Value,S = .slice (some ⟨w3.heap.size,0,none⟩) n n:=⟨_,rfl⟩;rw[← eS];have hblk:=put4_block w3 w.heap.size (I O o) (I O 0) (I O 0) S;have hbx:=put4_but hb (I O o) (I O 0) (I O 0) S;have hpb:=put4_below (W:=w3) (Nat.le_refl w.heap.size) (I O o) (I O 0) (I O 0) S;obtain⟨X,eX⟩:∃X,X=put4 w3 w.heap.size (I O o) (I O 0) (I O 0) S:=⟨_,rfl⟩;rw[← eX]at hblk hbx hpb ⊢;have hA:Below X.heap.size X (X.alloc (.cells (ST.flat R).toArray T)):=(brf _ _).alloc mle _;have htX:=ht.belowB hpb htw;refine⟨⟨o,0,0,some ⟨w3.heap.size,0,none⟩,n,n⟩,.mk o 0 0 K,d+1,q,by rw[eS],⟨⟨rfl,rfl,rfl,by show n=K.length;omega,Nat.le_refl _,fun e=>by cases e⟩,R,hlen,?_,fun a e => .inr (by cases e;show w.heap.size≤w3.heap.size;omega),fun k a b=>?_⟩,by rw[count];omega,htX.below hA,hbx.stp (hA.mono hbx.size)⟩
 ·have:=Recs.lit (S:=ST) X T R (by unfold maxLen;omega)
  rw[hblk.1]at this;exact this
 ·have h1:TV (NewQ w.heap.size) X d R[k] K[k]:=(hR k a b).change (by rw[hblk.1];exact Nat.le_refl _) fun g hq _=>⟨hblk.2 g (by unfold NewQ at hq;omega),by unfold NewQ at *;omega⟩
  exact⟨h1.is,h1.at_.below hA⟩
theorem scBelow (w:World)(g i:Nat)(u:Value){B:Nat}(h:B≤g):Below B w (w.setCell ⟨g,i,none⟩ u):=(brf _ _).setCell h _
theorem TB.new (w:World)(x0 x1 x2 x3:Value)(T:TypeId):TB w.heap.size (w.alloc (.cells #[x0,x1,x2,x3] T)) x0 x1 x2 x3:=by
 have f:∀i,(w.alloc (.cells #[x0,x1,x2,x3] T)).frozen? ⟨w.heap.size,i,none⟩=false:=fun i=>by
  simp only[World.frozen?,World.alloc_heap_new];simp
 exact⟨cwn _ _ _ 0,cwn _ _ _ 1,cwn _ _ _ 2,cwn _ _ _ 3,f 0,f 1,f 2,f 3,by simp⟩
theorem TB.but {b t:Nat}{W W' : World}{x0 x1 x2 x3:Value}(h:TB b W x0 x1 x2 x3)(hb:But t W W')(hne:b≠t):TB b W' x0 x1 x2 x3:=h.blk hb.size (hb.block b h.lt hne)
theorem tapeTerm_step (t:Nat)(l:List Int)(D:Nat)(hD:D≤2)(IH0:∀D', D=D' + 1→∀q W,TapeAt W t l q→Calls Tryz.prog 25 #[.pointer (some ⟨t,0,none⟩),I O (D' : Int)] W (TapeTerm t l D' W))(q0:Nat)(w:World)(h:TapeAt w t l q0) :
  Calls Tryz.prog 25 #[.pointer (some ⟨t,0,none⟩),I O (D:Int)] w (TapeTerm t l D w):=by
 have htw:=h.lt;have hA:Below w.heap.size w (w.alloc (.cells #[I O 0,I O 0,I O 0,.slice none 0 0] 28)):=(brf _ _).alloc mle _;have HT0:=mh (h.below hA);have HB0:=mh (But.of_below (t:=t) hA);have TB0:=mh (TB.new w (I O 0) (I O 0) (I O 0) (.slice none 0 0) 28);clear h hA;have IHH:=mh IH0;clear IH0
 go_enter Tryz.func25,Tryz.ntmps25
 go_upto_region 1 with fail
 generalize w.alloc (.cells #[I O 0,I O 0,I O 0,.slice none 0 0] 28)=w0 at *
 go_cut [12] (fun s W=>∃(z:Bool) (q:Nat),s = .bool z∧(z=true→0<D)∧TapeAt W t l q∧But t w W∧TB w.heap.size W (I O 0) (I O 0) (I O 0) (.slice none 0 0))
 case first =>
  rcases Nat.eq_zero_or_pos D with hz|hz
  ·subst hz
   rw[show((0:Nat):Int)=0 from rfl]
   go_wp2_with fail
   go_meet
   exact⟨false,q0,rfl,fun e=>(by cases e),HT0.out,HB0.out,TB0.out⟩
  ·obtain⟨z,ez⟩:∃z,(gives l q0 2==2 - 1)=z:=⟨_,rfl⟩
   have ON:=mh (ez▸one_any t l q0 2 w0 HT0.out (by omega) (by omega));have hi0:(0:Int)<(D:Int):=by omega
   have HZ:=mh hz;clear ez hz
   go_wp2_with (go_at_call 26;(with_reducible refine cmo ON.out ?_);rintro e wa ⟨rfl,hta,hba⟩;have HTa:=mh hta;have HBa:=mh (HB0.out.trans hba);have TBa:=mh (TB0.out.but hba (Nat.ne_of_gt htw));clear hta hba)
   go_meet
   exact⟨z,_,rfl,fun _=>HZ.out,HTa.out,HBa.out,TBa.out⟩
 case rest =>
  obtain⟨z,qa,rfl,hz,hta,hba,htb⟩:=hcut;have HTa:=mh hta;have HBa:=mh hba;have TBa:=mh htb;clear hta hba htb HT0 HB0 TB0;obtain⟨wa,rfl⟩:∃W:World,W=wc:=⟨_,rfl⟩
  cases z
  ·obtain⟨o,eo⟩:∃o,1+gives l qa 8=o:=⟨_,rfl⟩
   have hob:=gives_bd l qa (n:=8) (by omega)
   have RG:=mh (show ∀W,TapeAt W t l qa→Calls Tryz.prog 27 #[.pointer (some ⟨t,0,none⟩),I O 1,I O 8] W (fun e w' => e = .returned (I O o)∧TapeAt w' t l (taken l qa)∧But t W w') from fun W hW=>by
    have:=range_any t l qa 1 8 W hW (by omega) (by omega) (by omega);rw[show(8:Int) - 1+1=8 from rfl,eo]at this
    exact this)
   obtain⟨q1,eq1⟩:∃x,taken l qa=x:=⟨_,rfl⟩;rw[eq1]at RG;have hoc:o=1∨o=2∨o=3∨o=4∨o=5∨o=6∨o=7∨o=8:=by omega
   clear eo eq1 hob
   go_wp2_with fail
   (with_reducible refine cmo (RG.out _ HTa.out) ?_);rintro e w1 ⟨rfl,ht1,hb1⟩;have HB1:=mh (HBa.out.trans hb1);have TB1:=mh (TBa.out.but hb1 (Nat.ne_of_gt htw));have A1:=mh ((brf w1.heap.size w1).alloc mle (.cells #[I O o,I O 0,I O 0,.slice none 0 0] 28));have HT1:=mh (ht1.below A1.out);have HS1:=mh (nll TBa.out.lt hb1.size);clear ht1 hb1
   go_upto_region 10 with fail
   rcases hoc with rfl|rfl|rfl|rfl|rfl|rfl|rfl|rfl
   ·obtain⟨z0,z1,z2,z3,u0,u1,u2,u3, -⟩:=TB1.out.below A1.out
    go_wp2_with fail
    have FIN:=mh (term_leaf (D:=D) (w:=w) 1 0 0 (put4_but (HB1.out.nxt A1.out) (I O 1) (I O (0)) (I O (0)) (.slice none 0 0)) ((HT1.out).belowB (put4_below (Nat.le_refl w.heap.size) (I O 1) (I O (0)) (I O (0)) (.slice none 0 0)) htw));unfold put4 at FIN;exact bodyPost_ret (v := .agg #[I O 1,I O (0),I O (0),.slice none 0 0]) (by simp[results,Tryz.results25,go_sem,z0,z1,z2,z3]) rfl FIN.out
   ·go_wp2_with fail
    (with_reducible refine cmo (next_any t l q1 4 _ HT1.out (by decide)) ?_);rintro e w2 ⟨rfl,ht2,hb2⟩;have hgv:=gives_bd l q1 (n:=4) (by decide);obtain⟨gv,egv⟩:∃x,gives l q1 4=x:=⟨_,rfl⟩;rw[egv];rw[egv]at hgv;obtain⟨hg0,hg1⟩:=hgv;clear egv;have HBX:=mh ((HB1.out.nxt A1.out).trans hb2);have HTX:=mh ht2;obtain⟨x0,x1,x2,x3,y0,y1,y2,y3, -⟩:=(TB.new w1 (I O 2) (I O 0) (I O 0) (.slice none 0 0) 28).but hb2 (by have:=HS1.out;omega);obtain⟨z0,z1,z2,z3,u0,u1,u2,u3, -⟩:=(TB1.out.below A1.out).but hb2 (Nat.ne_of_gt htw);have hbz:w1.heap.size≠w.heap.size:=by have:=HS1.out;omega
    have hzb:w.heap.size≠w1.heap.size:=Ne.symm hbz;have HLE:=mh (Nat.le_of_lt HS1.out);clear ht2 hb2
    go_wp2
    have FIN:=mh (term_leaf (D:=D) (w:=w) 2 (gv) 0 (put4_but (HBX.out.stpB (scBelow w2 w1.heap.size 1 (I O (gv)) HLE.out) mle) (I O 2) (I O (gv)) (I O (0)) (.slice none 0 0)) ((HTX.out.belowB (scBelow w2 w1.heap.size 1 (I O (gv)) HLE.out) htw).belowB (put4_below (Nat.le_refl w.heap.size) (I O 2) (I O (gv)) (I O (0)) (.slice none 0 0)) htw));unfold put4 at FIN;exact bodyPost_ret (v := .agg #[I O 2,I O (gv),I O (0),.slice none 0 0]) (by simp[results,Tryz.results25,go_sem,z0,z1,z2,z3]) rfl FIN.out
   ·go_wp2_with fail
    (with_reducible refine cmo (next_any t l q1 4 _ HT1.out (by decide)) ?_);rintro e w2 ⟨rfl,ht2,hb2⟩;have hgv:=gives_bd l q1 (n:=4) (by decide);obtain⟨gv,egv⟩:∃x,gives l q1 4=x:=⟨_,rfl⟩;rw[egv];rw[egv]at hgv;obtain⟨hg0,hg1⟩:=hgv;clear egv;have HBX:=mh ((HB1.out.nxt A1.out).trans hb2);have HTX:=mh ht2;obtain⟨x0,x1,x2,x3,y0,y1,y2,y3, -⟩:=(TB.new w1 (I O 3) (I O 0) (I O 0) (.slice none 0 0) 28).but hb2 (by have:=HS1.out;omega);obtain⟨z0,z1,z2,z3,u0,u1,u2,u3, -⟩:=(TB1.out.below A1.out).but hb2 (Nat.ne_of_gt htw);have hbz:w1.heap.size≠w.heap.size:=by have:=HS1.out;omega
    have hzb:w.heap.size≠w1.heap.size:=Ne.symm hbz;have HLE:=mh (Nat.le_of_lt HS1.out);clear ht2 hb2
    go_wp2
    have FIN:=mh (term_leaf (D:=D) (w:=w) 3 (gv) 0 (put4_but (HBX.out.stpB (scBelow w2 w1.heap.size 1 (I O (gv)) HLE.out) mle) (I O 3) (I O (gv)) (I O (0)) (.slice none 0 0)) ((HTX.out.belowB (scBelow w2 w1.heap.size 1 (I O (gv)) HLE.out) htw).belowB (put4_below (Nat.le_refl w.heap.size) (I O 3) (I O (gv)) (I O (0)) (.slice none 0 0)) htw));unfold put4 at FIN;exact bodyPost_ret (v := .agg #[I O 3,I O (gv),I O (0),.slice none 0 0]) (by simp[results,Tryz.results25,go_sem,z0,z1,z2,z3]) rfl FIN.out
   ·go_wp2_with fail
    (with_reducible refine cmo (next_any t l q1 5 _ HT1.out (by decide)) ?_);rintro e w2 ⟨rfl,ht2,hb2⟩;have hgv:=gives_bd l q1 (n:=5) (by decide);obtain⟨gv,egv⟩:∃x,gives l q1 5=x:=⟨_,rfl⟩;rw[egv];rw[egv]at hgv;obtain⟨hg0,hg1⟩:=hgv;clear egv;have HBX:=mh ((HB1.out.nxt A1.out).trans hb2);have HTX:=mh ht2;obtain⟨x0,x1,x2,x3,y0,y1,y2,y3, -⟩:=(TB.new w1 (I O 4) (I O 0) (I O 0) (.slice none 0 0) 28).but hb2 (by have:=HS1.out;omega);obtain⟨z0,z1,z2,z3,u0,u1,u2,u3, -⟩:=(TB1.out.below A1.out).but hb2 (Nat.ne_of_gt htw);have hbz:w1.heap.size≠w.heap.size:=by have:=HS1.out;omega
    have hzb:w.heap.size≠w1.heap.size:=Ne.symm hbz;have HLE:=mh (Nat.le_of_lt HS1.out);clear ht2 hb2
    go_wp2
    have FIN:=mh (term_leaf (D:=D) (w:=w) 4 (wrap64 (2 ^ gv.toNat)) 0 (put4_but (HBX.out.stpB (scBelow w2 w1.heap.size 1 (I O (wrap64 (2 ^ gv.toNat))) HLE.out) mle) (I O 4) (I O (wrap64 (2 ^ gv.toNat))) (I O (0)) (.slice none 0 0)) ((HTX.out.belowB (scBelow w2 w1.heap.size 1 (I O (wrap64 (2 ^ gv.toNat))) HLE.out) htw).belowB (put4_below (Nat.le_refl w.heap.size) (I O 4) (I O (wrap64 (2 ^ gv.toNat))) (I O (0)) (.slice none 0 0)) htw));unfold put4 at FIN;exact bodyPost_ret (v := .agg #[I O 4,I O (wrap64 (2 ^ gv.toNat)),I O (0),.slice none 0 0]) (by simp[results,Tryz.results25,go_sem,z0,z1,z2,z3]) rfl FIN.out
   ·go_wp2_with fail
    (with_reducible refine cmo (next_any t l q1 16 _ HT1.out (by decide)) ?_);rintro e w2 ⟨rfl,ht2,hb2⟩;have hgv:=gives_bd l q1 (n:=16) (by decide);obtain⟨gv,egv⟩:∃x,gives l q1 16=x:=⟨_,rfl⟩;rw[egv];rw[egv]at hgv;obtain⟨hg0,hg1⟩:=hgv;clear egv;have HBX:=mh ((HB1.out.nxt A1.out).trans hb2);have HTX:=mh ht2;obtain⟨x0,x1,x2,x3,y0,y1,y2,y3, -⟩:=(TB.new w1 (I O 5) (I O 0) (I O 0) (.slice none 0 0) 28).but hb2 (by have:=HS1.out;omega);obtain⟨z0,z1,z2,z3,u0,u1,u2,u3, -⟩:=(TB1.out.below A1.out).but hb2 (Nat.ne_of_gt htw);have hbz:w1.heap.size≠w.heap.size:=by have:=HS1.out;omega
    have hzb:w.heap.size≠w1.heap.size:=Ne.symm hbz;have HLE:=mh (Nat.le_of_lt HS1.out);clear ht2 hb2
    go_wp2
    have FIN:=mh (term_leaf (D:=D) (w:=w) 5 (gv) 0 (put4_but (HBX.out.stpB (scBelow w2 w1.heap.size 1 (I O (gv)) HLE.out) mle) (I O 5) (I O (gv)) (I O (0)) (.slice none 0 0)) ((HTX.out.belowB (scBelow w2 w1.heap.size 1 (I O (gv)) HLE.out) htw).belowB (put4_below (Nat.le_refl w.heap.size) (I O 5) (I O (gv)) (I O (0)) (.slice none 0 0)) htw));unfold put4 at FIN;exact bodyPost_ret (v := .agg #[I O 5,I O (gv),I O (0),.slice none 0 0]) (by simp[results,Tryz.results25,go_sem,z0,z1,z2,z3]) rfl FIN.out
   ·go_wp2_with fail
    (with_reducible refine cmo (range_any t l q1 2 3 _ HT1.out (by decide) (by decide) (by decide)) ?_);rintro e w2 ⟨rfl,ht2,hb2⟩;obtain⟨gv,egv⟩:∃x,2+gives l q1 (3 - 2+1)=x:=⟨_,rfl⟩;rw[egv];clear egv;have HBX:=mh ((HB1.out.nxt A1.out).trans hb2);have HTX:=mh ht2;obtain⟨x0,x1,x2,x3,y0,y1,y2,y3, -⟩:=(TB.new w1 (I O 6) (I O 0) (I O 0) (.slice none 0 0) 28).but hb2 (by have:=HS1.out;omega);obtain⟨z0,z1,z2,z3,u0,u1,u2,u3, -⟩:=(TB1.out.below A1.out).but hb2 (Nat.ne_of_gt htw);have hbz:w1.heap.size≠w.heap.size:=by have:=HS1.out;omega
    have hzb:w.heap.size≠w1.heap.size:=Ne.symm hbz;have HLE:=mh (Nat.le_of_lt HS1.out);clear ht2 hb2
    go_wp2
    have FIN:=mh (term_leaf (D:=D) (w:=w) 6 (gv) 0 (put4_but (HBX.out.stpB (scBelow w2 w1.heap.size 1 (I O (gv)) HLE.out) mle) (I O 6) (I O (gv)) (I O (0)) (.slice none 0 0)) ((HTX.out.belowB (scBelow w2 w1.heap.size 1 (I O (gv)) HLE.out) htw).belowB (put4_below (Nat.le_refl w.heap.size) (I O 6) (I O (gv)) (I O (0)) (.slice none 0 0)) htw));unfold put4 at FIN;exact bodyPost_ret (v := .agg #[I O 6,I O (gv),I O (0),.slice none 0 0]) (by simp[results,Tryz.results25,go_sem,z0,z1,z2,z3]) rfl FIN.out
   ·go_wp2_with fail
    obtain⟨ga,ega⟩:∃x,1+gives l q1 (2 - 1+1)=x:=⟨_,rfl⟩;obtain⟨q2,eq2⟩:∃x,taken l q1=x:=⟨_,rfl⟩;have R2:=mh (fun (W:World) (hW:TapeAt W t l q1)=>eq2▸ega▸range_any t l q1 1 2 W hW (by omega) (by omega) (by omega));have hgv:=gives_bd l q2 (n:=5) (by decide);obtain⟨gv,egv⟩:∃x,gives l q2 5=x:=⟨_,rfl⟩;rw[egv]at hgv;obtain⟨hg0,hg1⟩:=hgv;have R3:=mh (fun (W:World) (hW:TapeAt W t l q2)=>egv▸next_any t l q2 5 W hW (by omega));clear ega eq2 egv;have hbz:w1.heap.size≠w.heap.size:=by have:=HS1.out;omega
    have hzb:w.heap.size≠w1.heap.size:=Ne.symm hbz;have HLE:=mh (Nat.le_of_lt HS1.out);have htw1:w1.heap.size≠t:=by have:=HS1.out;omega
    have HT1d:=mh (HT1.out.below (brf _ _).drew);obtain⟨WX,eWX⟩:∃W:World,(w1.alloc (.cells #[I O 7,I O 0,I O 0,.slice none 0 0] 28)).drew=W:=⟨_,rfl⟩;have TX:=mh (show TB w1.heap.size WX (I O 7) (I O 0) (I O 0) (.slice none 0 0) from eWX▸(TB.new w1 (I O 7) (I O 0) (I O 0) (.slice none 0 0) 28).below (brf _ _).drew);have TZ:=mh (show TB w.heap.size WX (I O 0) (I O 0) (I O 0) (.slice none 0 0) from eWX▸(TB1.out.below A1.out).below (brf _ _).drew);have BX:=mh (show But t w WX from eWX▸(HB1.out.nxt A1.out).drew);rw[eWX]at HT1d
    go_region_with (first|(go_at_call 27;refine cmo (R2.out _ HT1d.out) ?_;rintro e w2 ⟨rfl,ht2,hb2⟩;have TX2:=mh (TX.out.but hb2 htw1);have TZ2:=mh (TZ.out.but hb2 (Nat.ne_of_gt htw));have BX2:=mh (BX.out.trans hb2);have HT2:=mh ht2;clear ht2 hb2)|(go_at_call 23;refine cmo (R3.out _ HT2.out) ?_;rintro e w3 ⟨rfl,ht3,hb3⟩;have BX3:=mh (BX2.out.trans hb3);obtain⟨x0,x1,x2,x3,y0,y1,y2,y3, -⟩:=TX2.out.but hb3 htw1;obtain⟨z0,z1,z2,z3,u0,u1,u2,u3, -⟩:=TZ2.out.but hb3 (Nat.ne_of_gt htw);have HT3:=mh ht3;clear ht3 hb3))
    go_wp2
    have HQ:=mh ((BX3.out.stpB (scBelow w3 w1.heap.size 1 (I O ga) HLE.out) mle).stpB (scBelow (w3.setCell ⟨w1.heap.size,1,none⟩ (I O ga)) w1.heap.size 2 (I O (wrap64 (2 ^ gv.toNat))) HLE.out) mle);have HQT:=mh ((HT3.out.belowB (scBelow w3 w1.heap.size 1 (I O ga) HLE.out) htw).belowB (scBelow (w3.setCell ⟨w1.heap.size,1,none⟩ (I O ga)) w1.heap.size 2 (I O (wrap64 (2 ^ gv.toNat))) HLE.out) htw);have FIN:=mh (term_leaf (D:=D) (w:=w) 7 (ga) (wrap64 (2 ^ gv.toNat)) (put4_but (HQ.out) (I O 7) (I O (ga)) (I O (wrap64 (2 ^ gv.toNat))) (.slice none 0 0)) ((HQT.out).belowB (put4_below (Nat.le_refl w.heap.size) (I O 7) (I O (ga)) (I O (wrap64 (2 ^ gv.toNat))) (.slice none 0 0)) htw));unfold put4 at FIN;exact bodyPost_ret (v := .agg #[I O 7,I O (ga),I O (wrap64 (2 ^ gv.toNat)),.slice none 0 0]) (by simp[results,Tryz.results25,go_sem,z0,z1,z2,z3]) rfl FIN.out
   ·go_wp2_with fail
    (with_reducible refine cmo (range_any t l q1 1 3 _ HT1.out (by decide) (by decide) (by decide)) ?_);rintro e w2 ⟨rfl,ht2,hb2⟩;obtain⟨gv,egv⟩:∃x,1+gives l q1 (3 - 1+1)=x:=⟨_,rfl⟩;rw[egv];clear egv;have HBX:=mh ((HB1.out.nxt A1.out).trans hb2);have HTX:=mh ht2;obtain⟨x0,x1,x2,x3,y0,y1,y2,y3, -⟩:=(TB.new w1 (I O 8) (I O 0) (I O 0) (.slice none 0 0) 28).but hb2 (by have:=HS1.out;omega);obtain⟨z0,z1,z2,z3,u0,u1,u2,u3, -⟩:=(TB1.out.below A1.out).but hb2 (Nat.ne_of_gt htw);have hbz:w1.heap.size≠w.heap.size:=by have:=HS1.out;omega
    have hzb:w.heap.size≠w1.heap.size:=Ne.symm hbz;have HLE:=mh (Nat.le_of_lt HS1.out);clear ht2 hb2
    go_wp2
    have FIN:=mh (term_leaf (D:=D) (w:=w) 8 (gv) 0 (put4_but (HBX.out.stpB (scBelow w2 w1.heap.size 1 (I O (gv)) HLE.out) mle) (I O 8) (I O (gv)) (I O (0)) (.slice none 0 0)) ((HTX.out.belowB (scBelow w2 w1.heap.size 1 (I O (gv)) HLE.out) htw).belowB (put4_below (Nat.le_refl w.heap.size) (I O 8) (I O (gv)) (I O (0)) (.slice none 0 0)) htw));unfold put4 at FIN;exact bodyPost_ret (v := .agg #[I O 8,I O (gv),I O (0),.slice none 0 0]) (by simp[results,Tryz.results25,go_sem,z0,z1,z2,z3]) rfl FIN.out
      
  ·obtain⟨D', rfl⟩:∃D', D=D' + 1:=⟨D - 1,by have:=hz rfl;omega⟩
   obtain⟨i,ei⟩:∃i:Int,((D' + 1:Nat):Int)=i:=⟨_,rfl⟩;have hi3:i≤2:=by omega
   have hi0:0<i:=by omega
   have hid:(D' : Int)=i - 1:=by omega
   have IH:=mh (show ∀q W,TapeAt W t l q→Calls Tryz.prog 25 #[.pointer (some ⟨t,0,none⟩),I O (i - 1)] W (TapeTerm t l D' W) from fun q W hW=>hid▸IHH.out D' rfl q W hW);rw[ei];obtain⟨g,eg⟩:∃g,gives l qa 3=g:=⟨_,rfl⟩;have hg:=gives_bd l qa (n:=3) (by omega);rw[eg]at hg;have NX:=mh (eg▸next_any t l qa 3 wa HTa.out (by omega));have hgc:g=0∨g=1∨g=2:=by omega
   clear eg hg ei hid hz IHH
   go_wp2_with fail
   (with_reducible refine cmo NX.out ?_);rintro e wb ⟨rfl,htb,hbb⟩;have HTb:=mh htb;have HBb:=mh (HBa.out.trans hbb);have TBb:=mh (TBa.out.but hbb (Nat.ne_of_gt htw));clear htb hbb NX
   rcases hgc with rfl|rfl|rfl
   ·go_wp2_with fail
    (with_reducible refine cmo (IH.out _ _ HTb.out) ?_);rintro e wc ⟨r1,k1,d1,q1,rfl,hv1,hc1,ht1,hb1⟩;have HTc:=mh ht1;have HBc:=mh (HBb.out.trans hb1);have TBc:=mh (TBb.out.but hb1 (Nat.ne_of_gt htw));have V1:=mh (show TV (NewQ (w.heap.size+1)) wc d1 r1 k1 from hv1.change mle fun b hq _=>⟨rfl,by have:=TBb.out.lt;unfold NewQ at *;omega⟩);clear hv1 ht1 hb1;obtain⟨z0,z1,z2,z3,u0,u1,u2,u3,hlt⟩:=TBc.out;have hct:countL [k1]+1<2 ^ (D' + 1+1):=by
     have e1:countL [k1]=count k1:=by rw[countL,countL,Nat.add_zero]
     have e2:2 ^ (D' + 1+1)=2*2 ^ (D' + 1):=by rw[Nat.pow_succ,Nat.mul_comm]
     rw[e1,e2];omega
    have FIN:=mh (term_kids (D:=D' + 1) HBc.out HTc.out htw 11 [r1] [k1] d1 1 rfl rfl (by omega) (fun k a b=>by
     match k,a with
     | 0,_=>exact V1.out) hlt hct 28)
    unfold put4 at FIN;have TF:=(TBc.out.res (I O 11) (I O 0) (I O 0) (.slice (some ⟨wc.heap.size,0,none⟩) 1 1)).below (balloc mle (brf _ _) (.cells #[I O r1.op,I O r1.num,I O r1.more,.slice r1.p r1.n r1.c] 28));unfold put4 at TF;have TF:=mh TF
    go_wp2
    obtain⟨k0,k1,k2,k3, -, -, -, -, -⟩:=TF.out;exact bodyPost_ret (v := .agg #[I O 11,I O 0,I O 0,.slice (some ⟨wc.heap.size,0,none⟩) 1 1]) (by simp[results,Tryz.results25,go_sem,k0,k1,k2,k3]) rfl FIN.out
   ·go_wp2_with fail
    (with_reducible refine cmo (IH.out _ _ HTb.out) ?_);rintro e wc ⟨r1,k1,d1,q1,rfl,hv1,hc1,ht1,hb1⟩;have HTc:=mh ht1;have HBc:=mh (HBb.out.trans hb1);have TBc:=mh (TBb.out.but hb1 (Nat.ne_of_gt htw));have V1:=mh (show TV (NewQ (w.heap.size+1)) wc d1 r1 k1 from hv1.change mle fun b hq _=>⟨rfl,by have:=TBb.out.lt;unfold NewQ at *;omega⟩);clear hv1 ht1 hb1
    go_wp2_with fail
    (with_reducible refine cmo (IH.out _ _ HTc.out) ?_);rintro e wd ⟨r2,k2,d2,q2,rfl,hv2,hc2,ht2,hb2⟩;have HBd:=mh (HBc.out.trans hb2);obtain⟨z0,z1,z2,z3,u0,u1,u2,u3,hlt⟩:=TBc.out.but hb2 (Nat.ne_of_gt htw);have hct:countL [k1,k2]+1<2 ^ (D' + 1+1):=by
     have e1:countL [k1,k2]=count k1+count k2:=by rw[countL,countL,countL,Nat.add_zero]
     have e2:2 ^ (D' + 1+1)=2*2 ^ (D' + 1):=by rw[Nat.pow_succ,Nat.mul_comm]
     rw[e1,e2];omega
    have FIN:=mh (term_kids (D:=D' + 1) HBd.out ht2 htw 9 [r1,r2] [k1,k2] (max d1 d2) 2 rfl rfl (by omega) (fun k a b=>by
     match k,a with
     | 0,_=>exact(V1.out.change hb2.size fun b hq hl=>⟨hb2.block b hl (by unfold NewQ at hq;omega),hq⟩).deep (Nat.le_max_left _ _)
     | 1,_=>exact(hv2.change mle fun b hq _=>⟨rfl,by have:=TBc.out.lt;unfold NewQ at *;omega⟩).deep (Nat.le_max_right _ _)) hlt hct 28)
    unfold put4 at FIN;clear hv2 ht2;have TF:=((TBc.out.but hb2 (Nat.ne_of_gt htw)).res (I O 9) (I O 0) (I O 0) (.slice (some ⟨wd.heap.size,0,none⟩) 2 2)).below (balloc mle (brf _ _) (.cells #[I O r1.op,I O r1.num,I O r1.more,.slice r1.p r1.n r1.c,I O r2.op,I O r2.num,I O r2.more,.slice r2.p r2.n r2.c] 28));unfold put4 at TF;have TF:=mh TF;clear hb2
    go_wp2
    obtain⟨k0,k1,k2,k3, -, -, -, -, -⟩:=TF.out;exact bodyPost_ret (v := .agg #[I O 9,I O 0,I O 0,.slice (some ⟨wd.heap.size,0,none⟩) 2 2]) (by simp[results,Tryz.results25,go_sem,k0,k1,k2,k3]) rfl FIN.out
   ·go_wp2_with fail
    (with_reducible refine cmo (IH.out _ _ HTb.out) ?_);rintro e wc ⟨r1,k1,d1,q1,rfl,hv1,hc1,ht1,hb1⟩;have HTc:=mh ht1;have HBc:=mh (HBb.out.trans hb1);have TBc:=mh (TBb.out.but hb1 (Nat.ne_of_gt htw));have V1:=mh (show TV (NewQ (w.heap.size+1)) wc d1 r1 k1 from hv1.change mle fun b hq _=>⟨rfl,by have:=TBb.out.lt;unfold NewQ at *;omega⟩);clear hv1 ht1 hb1
    go_wp2_with fail
    (with_reducible refine cmo (IH.out _ _ HTc.out) ?_);rintro e wd ⟨r2,k2,d2,q2,rfl,hv2,hc2,ht2,hb2⟩;have HBd:=mh (HBc.out.trans hb2);obtain⟨z0,z1,z2,z3,u0,u1,u2,u3,hlt⟩:=TBc.out.but hb2 (Nat.ne_of_gt htw);have hct:countL [k1,k2]+1<2 ^ (D' + 1+1):=by
     have e1:countL [k1,k2]=count k1+count k2:=by rw[countL,countL,countL,Nat.add_zero]
     have e2:2 ^ (D' + 1+1)=2*2 ^ (D' + 1):=by rw[Nat.pow_succ,Nat.mul_comm]
     rw[e1,e2];omega
    have FIN:=mh (term_kids (D:=D' + 1) HBd.out ht2 htw 10 [r1,r2] [k1,k2] (max d1 d2) 2 rfl rfl (by omega) (fun k a b=>by
     match k,a with
     | 0,_=>exact(V1.out.change hb2.size fun b hq hl=>⟨hb2.block b hl (by unfold NewQ at hq;omega),hq⟩).deep (Nat.le_max_left _ _)
     | 1,_=>exact(hv2.change mle fun b hq _=>⟨rfl,by have:=TBc.out.lt;unfold NewQ at *;omega⟩).deep (Nat.le_max_right _ _)) hlt hct 28)
    unfold put4 at FIN;clear hv2 ht2;have TF:=((TBc.out.but hb2 (Nat.ne_of_gt htw)).res (I O 10) (I O 0) (I O 0) (.slice (some ⟨wd.heap.size,0,none⟩) 2 2)).below (balloc mle (brf _ _) (.cells #[I O r1.op,I O r1.num,I O r1.more,.slice r1.p r1.n r1.c,I O r2.op,I O r2.num,I O r2.more,.slice r2.p r2.n r2.c] 28));unfold put4 at TF;have TF:=mh TF;clear hb2
    go_wp2
    obtain⟨k0,k1,k2,k3, -, -, -, -, -⟩:=TF.out;exact bodyPost_ret (v := .agg #[I O 10,I O 0,I O 0,.slice (some ⟨wd.heap.size,0,none⟩) 2 2]) (by simp[results,Tryz.results25,go_sem,k0,k1,k2,k3]) rfl FIN.out
      
theorem tapeTerm_any (t:Nat)(l:List Int):∀(D:Nat) (_:D≤2) (q0:Nat) (w:World) (_:TapeAt w t l q0),
  Calls Tryz.prog 25 #[.pointer (some ⟨t,0,none⟩),I O (D:Int)] w (TapeTerm t l D w)
 | 0,hD,q0,w,h=>tapeTerm_step t l 0 hD (fun D' e=>by omega) q0 w h
 | D+1,hD,q0,w,h=>tapeTerm_step t l (D+1) hD (fun D' e q W hW=>(show D=D' by omega)▸tapeTerm_any t l D (by omega) q W hW) q0 w h
open Go.Shelf
theorem stepCall {P:Program}{ops:Array Oper}{o:Oper}{a:Act}{w:World}{K:Act→World→Prop}{Q:Exit→Act→World→Prop}{E:Prop}(hgd:o.guard=none)(f:FuncId)(xs:Array Operand)(ts:Array TypeId)(args:Array Value)
  (ho:o.op = .call { callee := .value (.func f),args:=xs,argTypes:=ts }) (he:∀args w,(callFunc f args).run P w = .ok (.enter f args) w) (ha:xs.map a.eval=args) {R:Ending→World→Prop} (hc:Calls P f args w R)
  (h:∀e w', R e w' → ∃v,e = .returned v∧K (a.put o.dst v) w'):if Region.wanted o (yielded ops a.tmps)=true then Oper.wp P o a w K Q else E:=by
 have hw:Region.wanted o (yielded ops a.tmps)=true:=by simp[Region.wanted,hgd]
 rw[if_pos hw];have hrun:(execOp a.eval o).run P w = .ok (.enter f args) w:=by
  subst ha
  simp[execOp,ho,resolve,invoke,Act.eval,Deferred.ofValue,he]
 unfold Oper.wp;rw[hrun,Oper.upon_enter];refine hc.mono fun e w' hR=>?_
 obtain⟨v,rfl,k⟩:=h e w' hR;exact k
theorem name_len {l:List UInt8}(h:l.length<1∨12<l.length):Wo.nameB l=false:=by
 unfold Wo.nameB;have:(decide (1≤l.length)&&decide (l.length≤12))=false:=by
  rw[Bool.and_eq_false_iff,decide_eq_false_iff_not,decide_eq_false_iff_not];omega
 rw[this,Bool.and_false]
theorem refname_any (s:ByteArray)(w:World)(hs:s.size≤9223372036854775807) :
  Calls Tryz.prog 52 #[.string s] w (NameGive s.data.toList w):=by
 have hlen:s.data.toList.length=s.size:=by rw[Array.length_toList];rfl
 by_cases h1:s.size<1
 ·have HN:=mh (name_len (l:=s.data.toList) (.inl (by omega)))
  have h1' : (s.size:Int)<1:=by omega
  clear h1 hlen
  go_enter Tryz.func52,Tryz.ntmps52
  go_wp2
  go_ret
  exact⟨ret_b HN.out.symm,rfl⟩
 have g1:¬(s.size:Int)<1:=by omega
 by_cases h2:12<s.size
 ·have HN:=mh (name_len (l:=s.data.toList) (.inr (by omega)))
  have h2' : (12:Int)<(s.size:Int):=by omega
  clear h1 h2 hlen
  go_enter Tryz.func52,Tryz.ntmps52
  go_wp2
  go_ret
  exact⟨ret_b HN.out.symm,rfl⟩
 have g2:¬(12:Int)<(s.size:Int):=by omega
 have h0:0<s.size:=by omega
 have H1:=mh (show Wo.headB (s.data.toList.take 1)=Wo.letB s[0] by
  rw[Wo.take_snoc_bytes s 0 h0,Wo.headB_snoc];simp[Wo.headB])
 have HN:=mh (show Wo.headB s.data.toList=true→Wo.nameB s.data.toList=true by
  intro h;unfold Wo.nameB
  rw[h,Bool.true_and,Bool.and_eq_true,decide_eq_true_eq,decide_eq_true_eq,hlen];omega)
 have hlen' := mh hlen;clear h1 h2 hlen
 cases hl:Wo.letB s[0]
 ·have HF:=mh (headB_false (l:=s.data.toList) (k:=1) (by rw[H1.out,hl]))
  rcases byte_kinds s[0] with⟨c1,l1,d1⟩|⟨c1,c2,l1,d1⟩|⟨c1,c2,l1,d1⟩|⟨c1,c2,l1,d1⟩|⟨c1,l1,d1⟩
  all_goals first|(rw[hl]at l1;cases l1;done)|skip
  all_goals
   clear l1 d1 hl
   go_enter Tryz.func52,Tryz.ntmps52
   go_wp2
   go_ret
   exact⟨ret_b HF.out.symm,rfl⟩
 ·have HL:=mh hl
  have hh:97≤((s[0]).toNat:Int)∧((s[0]).toNat:Int)≤122:=by
   simp only[Wo.letB,Bool.and_eq_true,decide_eq_true_eq]at hl;exact hl
  obtain⟨c1,c2⟩:=hh;clear hl
  go_enter Tryz.func52,Tryz.ntmps52
  go_wp2
  clear c1 c2
  go_loop [3] (fun i=>∃k:Nat,k≤s.size∧i=I O k∧Wo.headB (s.data.toList.take k)=true) (fun i=>s.size - (intOf i).toNat)
  case atStart=>exact⟨0,Nat.zero_le _,rfl,rfl⟩
  case round =>
   obtain⟨k,hk,rfl,hh⟩:=hrel;have HH:=mh hh;clear hh;have hk0:(0:Int)≤(k:Int):=inn _
   by_cases hlt:k<s.size
   ·have HS:=mh (show Wo.headB (s.data.toList.take (k+1))=(Wo.letB s[k]||Wo.digB s[k]) by
     rcases Nat.eq_zero_or_pos k with h0|hpos
     ·subst h0
      rw[H1.out,HL.out];rfl
     ·rw[Wo.take_snoc_bytes s k hlt,Wo.headB_snoc,HH.out,Bool.true_and]
      have:(s.data.toList.take k).isEmpty=false:=by
       rw[List.isEmpty_eq_false_iff,ne_eq,List.take_eq_nil_iff,not_or];exact⟨by omega,fun e=>by have h9:s.data.toList.length=0:=(by rw[e];rfl);rw[hlen'.out]at h9;omega⟩
      rw[this];rfl)
    rcases byte_kinds s[k] with⟨c1,l1,d1⟩|⟨c1,c2,l1,d1⟩|⟨c1,c2,l1,d1⟩|⟨c1,c2,l1,d1⟩|⟨c1,l1,d1⟩
    all_goals
     rw[l1,d1]at HS;clear l1 d1
     go_wp2
     first
      | (go_round
         case rel=>exact⟨k+1,by omega,by go_num,HS.out⟩
         case measure=>simp[intOf];omega)
      | (go_ret
         exact⟨ret_b (headB_false HS.out).symm,rfl⟩)
   ·obtain rfl:k=s.size:=by omega
    have HE:=mh (HN.out (by have h:=HH.out;rwa [List.take_of_length_le (by rw[Array.length_toList];exact Nat.le_refl _)]at h))
    go_wp2
    go_ret
    exact⟨ret_b HE.out.symm,rfl⟩
end Go.Proofs.YtbcmabolkkfgfaaGreatDoor
