/- Packed. -/
import Derived.Test.YtljibgchickcpaaGreatDoorC29
set_option maxRecDepth 100000
set_option maxHeartbeats 4000000
open Go.Value renaming int → I
open Go.IntKind renaming i64 → O
namespace Go.Proofs.YtljibgchickcpaaGreatDoor
open Go.RowKit Sc As Dn
namespace Dn
def lineR (D:Dec) (first:Bool):List (List UInt8)→Option (Dec × Int × Bool)
 | []=>none
 | x::l =>
   if first=true then (if (numsB l 3&&decide (x=wDecision))=true then some (⟨nvs l 0,nvs l 1,nvs l 2, [], []⟩,0,false) else none)
   else if x=wAward then (if (numsB l 8&&D.rs.isEmpty)=true then some ({ D with aw:=D.aw ++ [⟨D.farm,nvs l 0,nvs l 1,nvs l 2,nvs l 3,nvs l 4,nvs l 5,nvs l 6,nvs l 7⟩] },0,false) else none)
   else if x=wReason then (if rsnB l=true then some ({ D with rs:=D.rs ++ [⟨nvs l 0,nvs l 1,kindI (l.getD 2 [])⟩] },0,false) else none)
   else if x=wTotal then (if numsB l 1=true then some (D,nvs l 0,true) else none)
   else none
structure StR (s:PS) (D:Dec) (first:Bool):Prop where
 d:s.d=D
 z:first=true→s.part=0∧D=Dec.none
 a:first=false→(s.part=1∧D.rs = [])∨(s.part=2∧D.rs ≠ [])
theorem lineR_cons (D:Dec)(first:Bool)(x:List UInt8)(l:List (List UInt8)):lineR D first (x::l) =
  if first=true then (if (numsB l 3&&decide (x=wDecision))=true then some (⟨nvs l 0,nvs l 1,nvs l 2, [], []⟩,0,false) else Option.none)
  else if x=wAward then (if (numsB l 8&&D.rs.isEmpty)=true then some ({ D with aw:=D.aw ++ [⟨D.farm,nvs l 0,nvs l 1,nvs l 2,nvs l 3,nvs l 4,nvs l 5,nvs l 6,nvs l 7⟩] },0,false) else Option.none)
  else if x=wReason then (if rsnB l=true then some ({ D with rs:=D.rs ++ [⟨nvs l 0,nvs l 1,kindI (l.getD 2 [])⟩] },0,false) else Option.none)
  else if x=wTotal then (if numsB l 1=true then some (D,nvs l 0,true) else Option.none)
  else Option.none:=rfl
theorem StR.start:StR PS.start Dec.none true:=⟨rfl,fun _=>⟨rfl,rfl⟩,fun h=>by cases h⟩
theorem StR.none {s:PS}{D:Dec}{first:Bool}(h:StR s D first){x:List UInt8}{l:List (List UInt8)}(hl:lineR D first (x::l)=Option.none):stepW s (x::l)=Option.none:=by
 rw[stepW_cons];rw[lineR_cons]at hl
 cases first with
 | true =>
   obtain⟨hp,rfl⟩:=h.z rfl;rw[if_pos rfl]at hl;have hs:=h.d
   by_cases h0:x=wDecision
   ·rw[if_pos h0]
    subst h0;unfold stepD
    split at hl
    ·cases hl
    ·rename_i hn
     rw[if_neg (by simp at hn ⊢;intro hb;rw[hb]at hn;simp at hn)]
   rw[if_neg h0]
   by_cases h1:x=wAward
   ·rw[if_pos h1];unfold stepA;rw[if_neg (by rw[hp];simp)]
   rw[if_neg h1]
   by_cases h2:x=wReason
   ·rw[if_pos h2];unfold stepR midB;rw[if_neg (by rw[hp];simp)]
   rw[if_neg h2]
   by_cases h3:x=wTotal
   ·rw[if_pos h3];unfold Dn.stepT midB;rw[if_neg (by rw[hp];simp)]
   rw[if_neg h3]
 | false =>
   rw[if_neg (by decide)]at hl;have ha:=h.a rfl;have hp0:s.part≠0:=by rcases ha with⟨h, -⟩|⟨h, -⟩<;>omega
   by_cases h0:x=wDecision
   ·rw[if_pos h0];unfold stepD;rw[if_neg (by simp[hp0])]
   rw[if_neg h0]
   by_cases h1:x=wAward
   ·rw[if_pos h1]at hl ⊢
    split at hl
    ·cases hl
    ·rename_i hn
     unfold stepA;rw[if_neg ?_];intro hc;rw[Bool.and_eq_true,decide_eq_true_eq]at hc
     apply hn
     rw[hc.1]
     rcases ha with⟨-,h⟩|⟨h, -⟩
     ·rw[h];rfl
     ·omega
   rw[if_neg h1]at hl ⊢;have hmid:midB s=true:=by unfold midB;rcases ha with⟨h, -⟩|⟨h, -⟩<;>simp[h]
   by_cases h2:x=wReason
   ·rw[if_pos h2]at hl ⊢
    split at hl
    ·cases hl
    ·rename_i hn
     unfold stepR;unfold rsnB at hn;rw[hmid,Bool.and_true,if_neg hn]
   rw[if_neg h2]at hl ⊢
   by_cases h3:x=wTotal
   ·rw[if_pos h3]at hl ⊢
    split at hl
    ·cases hl
    ·rename_i hn
     unfold Dn.stepT;rw[hmid,Bool.and_true,if_neg hn]
   rw[if_neg h3]
theorem StR.some {s:PS}{D D' : Dec}{first en:Bool}{v:Int}(h:StR s D first){x:List UInt8}{l:List (List UInt8)}(hl:lineR D first (x::l)=Option.some (D', v,en)) :
  ∃s', stepW s (x::l)=Option.some s' ∧ s'.d=D' ∧ (en=true→s'.part=3∧s'.tot=v)∧(en=false→StR s' D' false):=by
 rw[stepW_cons];rw[lineR_cons]at hl;have hs:=h.d
 cases first with
 | true =>
   obtain⟨hp,rfl⟩:=h.z rfl;rw[if_pos rfl]at hl
   split at hl
   ·rename_i hc
    rw[Bool.and_eq_true,decide_eq_true_eq]at hc;obtain⟨hb,rfl⟩:=hc
    cases hl
    rw[if_pos rfl];unfold stepD;rw[if_pos (by rw[hb,hp];rfl),hs];exact⟨_,rfl,rfl,(fun h=>by cases h),fun _=>⟨rfl,(fun h=>by cases h),fun _ => .inl ⟨rfl,rfl⟩⟩⟩
   ·cases hl
 | false =>
   rw[if_neg (by decide)]at hl;have ha:=h.a rfl;have hmid:midB s=true:=by unfold midB;rcases ha with⟨h, -⟩|⟨h, -⟩<;>simp[h]
   by_cases h1:x=wAward
   ·rw[if_pos h1]at hl
    have h0:x≠wDecision:=by rw[h1];decide
    rw[if_neg h0,if_pos h1]
    split at hl
    ·rename_i hc
     rw[Bool.and_eq_true,List.isEmpty_iff]at hc
     cases hl
     have hp1:s.part=1:=by
      rcases ha with⟨h, -⟩|⟨-,h⟩
      ·exact h
      ·exact absurd hc.2 h
     unfold stepA;rw[if_pos (by rw[hc.1,hp1];rfl),hs];exact⟨_,rfl,rfl,(fun h=>by cases h),fun _=>⟨rfl,(fun h=>by cases h),fun _ => .inl ⟨rfl,hc.2⟩⟩⟩
    ·cases hl
   rw[if_neg h1]at hl
   by_cases h2:x=wReason
   ·rw[if_pos h2]at hl
    have h0:x≠wDecision:=by rw[h2];decide
    rw[if_neg h0,if_neg h1,if_pos h2]
    split at hl
    ·rename_i hc
     cases hl
     unfold stepR;rw[hmid,Bool.and_true];unfold rsnB at hc;rw[if_pos hc,hs];exact⟨_,rfl,rfl,(fun h=>by cases h),fun _=>⟨rfl,(fun h=>by cases h),fun _ => .inr ⟨rfl,by simp⟩⟩⟩
    ·cases hl
   rw[if_neg h2]at hl
   by_cases h3:x=wTotal
   ·rw[if_pos h3]at hl
    have h0:x≠wDecision:=by rw[h3];decide
    rw[if_neg h0,if_neg h1,if_neg h2,if_pos h3]
    split at hl
    ·rename_i hc
     cases hl
     unfold Dn.stepT;rw[hmid,hc];exact⟨_,rfl,hs,(fun _=>⟨rfl,rfl⟩),fun h=>by cases h⟩
    ·cases hl
   rw[if_neg h3]at hl
   cases hl
theorem step_three {s:PS}(h:s.part=3)(l:List (List UInt8)):stepW s l=Option.none:=by
 cases l with
 | nil=>rfl
 | cons x l =>
   rw[stepW_cons]
   split
   ·unfold stepD;rw[if_neg (by rw[h];simp)]
   split
   ·unfold stepA;rw[if_neg (by rw[h];simp)]
   split
   ·unfold stepR midB;rw[if_neg (by rw[h];simp)]
   split
   ·unfold Dn.stepT midB;rw[if_neg (by rw[h];simp)]
   rfl
theorem run_three {f:Nat}{n:Int}{s:PS}{t:List UInt8}(h:s.part=3)(ht:t ≠ []):run (f+1) n s t=(Dec.none,n+1,4):=by
 unfold run;rw[if_neg ht]
 split
 ·rfl
 ·rw[step_three h]
theorem run_end {f:Nat}{n:Int}{s:PS}{D:Dec}{first:Bool}(h:StR s D first):run (f+1) n s []=(Dec.none,n+1,4):=by
 rw[run_nil];unfold fin;rw[if_pos]
 cases first with
 | true=>rw[(h.z rfl).1];decide
 | false=>rcases h.a rfl with⟨h, -⟩|⟨h, -⟩<;>omega
end Dn
def Nw (w:World) (r r2:RD):Prop:=∀h,h<w.heap.size→(Value.slice r.ap r.an r.ac).ownBlock≠some h→(Value.slice r.rp r.rn r.rc).ownBlock≠some h→(Value.slice r2.ap r2.an r2.ac).ownBlock≠some h∧(Value.slice r2.rp r2.rn r2.rc).ownBlock≠some h
def Fa (w:World) (r:RD) (w' : World):Prop:=∀k,k<w.heap.size→(Value.slice r.ap r.an r.ac).ownBlock≠some k→(Value.slice r.rp r.rn r.rc).ownBlock≠some k→w'.heap[k]?=w.heap[k]?
def RLnG (B:Nat) (r0:RD) (o:Option (Dec × Int × Bool)) (w:World) (e:Ending) (w' : World):Prop :=
 ∃(r:RD) (v:Int) (en:Bool),e = .returned (.tuple #[.agg (dCells r).toArray,I O v,.bool en,.bool o.isSome])∧(∀D' v' en', o=some (D', v', en')→DO B w' r D' ∧ v=v' ∧ en=en' ∧ Nw w r0 r)∧Below B w w' ∧ Fa w r0 w'
structure LnF (w W:World) (r0 r:RD) (D:Dec) (B:Nat):Prop where
 box:Blk W w.heap.size #[I O r.year,I O r.farm,I O r.ver,.slice r.ap r.an r.ac,.slice r.rp r.rn r.rc] 26
 res:Blk W (w.heap.size+1) #[I O 0,I O 0,I O 0,.slice none 0 0,.slice none 0 0] 26
 own:DO B W r D
 low:Below B w W
 le:B≤w.heap.size
 ga:∀k,(Value.slice r.ap r.an r.ac).ownBlock=some k→k≠w.heap.size∧k≠w.heap.size+1
 gr:∀k,(Value.slice r.rp r.rn r.rc).ownBlock=some k→k≠w.heap.size∧k≠w.heap.size+1
 fa:Fa w r0 W
theorem LnF.below {w W W' : World}{r0 r:RD}{D:Dec}{B:Nat}(h:LnF w W r0 r D B)(hb:Below W.heap.size W W'):LnF w W' r0 r D B :=
 ⟨h.box.below hb,h.res.below hb,h.own.below hb,h.low.trans (hb.mono (Nat.le_trans h.le h.low.size)),h.le,h.ga,h.gr,fun k hk a b=>(hb.block k (nll hk h.low.size)).trans (h.fa k hk a b)⟩
theorem LnF.sz {w W:World}{r0 r:RD}{D:Dec}{B:Nat}(h:LnF w W r0 r D B):w.heap.size≤W.heap.size:=h.low.size
theorem LnF.fab {w W W' : World}{r0 r:RD}{D:Dec}{B:Nat}(h:LnF w W r0 r D B)(k:But (w.heap.size+1) W W'):Fa w r0 W' := fun i hi a b=>(k.block i (nll hi h.sz) (by omega)).trans (h.fa i hi a b)
theorem LnF.dob {w W W' : World}{r0 r:RD}{D:Dec}{B:Nat}(h:LnF w W r0 r D B)(k:But (w.heap.size+1) W W'):DO B W' r D :=
 ⟨h.own.year,h.own.farm,h.own.ver,h.own.aw.blocks fun i e _ l=>k.block i l (h.ga i e).2,h.own.rs.blocks fun i e _ l=>k.block i l (h.gr i e).2,h.own.ap⟩
theorem LnF.pushA {w W W' : World}{r:RD}{D:Dec}{B H:Nat}{v:Value}{y:Awd}(h:LnF w W r r D B)(hO:OwnR SA W' 78 B v (D.aw ++ [y]))(ap:Appends W W' B H (.slice r.ap r.an r.ac) v)(hH:W.heap.size≤H) :
  ∃p n c,v = .slice p n c∧LnF w (W'.setCell ⟨w.heap.size,3,none⟩ v) r { r with ap:=p,an:=n,ac:=c } { D with aw:=D.aw ++ [y] } B∧Nw w r { r with ap:=p,an:=n,ac:=c }:=by
 obtain⟨p,c,rfl, -⟩:=hO.cut rfl;refine⟨p,_,c,rfl,?_⟩;have l0:=h.box.lt;have l1:=h.res.lt;have hB:=(ap.far _ l0 (fun e=>(h.ga _ e).1 rfl)).trans h.box;have hR:Blk W' (w.heap.size+1) #[I O 0,I O 0,I O 0,.slice none 0 0,.slice none 0 0] 26:=(ap.far _ l1 (fun e=>(h.ga _ e).2 rfl)).trans h.res;have na:∀k,(Value.slice p ↑(D.aw ++ [y]).length c).ownBlock=some k→k≠w.heap.size∧k≠w.heap.size+1:=fun k e=>by
  rcases ap.block with e3|e3
  ·rw[e3]at e;exact h.ga k e
  ·rw[e3]at e;cases e;omega
 have k:∀i,i≠w.heap.size→(W'.setCell ⟨w.heap.size,3,none⟩ (.slice p ↑(D.aw ++ [y]).length c)).heap[i]?=W'.heap[i]?:=fun i hi=>setCell_far _ hi _ _
 have hrs:=ap.keep h.own.rs (by
  cases e:(Value.slice r.rp r.rn r.rc).ownBlock with
  | none=>exact .inl rfl
  | some g=>exact .inr fun e2=>h.own.ap g e2.symm e)
 have hnw:Nw w r { r with ap:=p,an:=(D.aw ++ [y]).length,ac:=c }:=fun k hk a b=>⟨fun e=>by
  rcases ap.block with e3|e3
  ·rw[e3]at e;exact a e
  ·rw[e3]at e;cases e;have:=h.low.size;omega,b⟩
 refine⟨⟨Blk.set hB 3 _,(k _ (by omega)).trans hR,⟨h.own.year,h.own.farm,h.own.ver,hO.blocks fun i e _ _=>k i (na i e).1,hrs.blocks fun i e _ _=>k i (h.gr i e).1,?_⟩,?_,h.le,na,h.gr,fun i hi a b=>(k i (by omega)).trans ((ap.far i (nll hi h.low.size) a).trans (h.fa i hi a b))⟩,hnw⟩
 ·intro g hg e
  rcases ap.block with hb|hb
  ·exact h.own.ap g (hb▸hg) e
  ·have h3:=own_lt h.own.rs e
   rw[hb]at hg
   cases hg
   omega
 ·exact(h.low.trans ap.below).setCell (p:=⟨w.heap.size,3,none⟩) h.le _
theorem LnF.pushR {w W W' : World}{r:RD}{D:Dec}{B H:Nat}{v:Value}{y:Rsn}(h:LnF w W r r D B)(hO:OwnR SRn W' 76 B v (D.rs ++ [y]))(ap:Appends W W' B H (.slice r.rp r.rn r.rc) v)(hH:W.heap.size≤H) :
  ∃p n c,v = .slice p n c∧LnF w (W'.setCell ⟨w.heap.size,4,none⟩ v) r { r with rp:=p,rn:=n,rc:=c } { D with rs:=D.rs ++ [y] } B∧Nw w r { r with rp:=p,rn:=n,rc:=c }:=by
 obtain⟨p,c,rfl, -⟩:=hO.cut rfl;refine⟨p,_,c,rfl,?_⟩;have l0:=h.box.lt;have l1:=h.res.lt;have hB:=(ap.far _ l0 (fun e=>(h.gr _ e).1 rfl)).trans h.box;have hR:Blk W' (w.heap.size+1) #[I O 0,I O 0,I O 0,.slice none 0 0,.slice none 0 0] 26:=(ap.far _ l1 (fun e=>(h.gr _ e).2 rfl)).trans h.res;have na:∀k,(Value.slice p ↑(D.rs ++ [y]).length c).ownBlock=some k→k≠w.heap.size∧k≠w.heap.size+1:=fun k e=>by
  rcases ap.block with e3|e3
  ·rw[e3]at e;exact h.gr k e
  ·rw[e3]at e;cases e;omega
 have k:∀i,i≠w.heap.size→(W'.setCell ⟨w.heap.size,4,none⟩ (.slice p ↑(D.rs ++ [y]).length c)).heap[i]?=W'.heap[i]?:=fun i hi=>setCell_far _ hi _ _
 have haw:=ap.keep h.own.aw (by
  cases e:(Value.slice r.ap r.an r.ac).ownBlock with
  | none=>exact .inl rfl
  | some g=>exact .inr fun e2=>h.own.ap g e e2.symm)
 have hnw:Nw w r { r with rp:=p,rn:=(D.rs ++ [y]).length,rc:=c }:=fun k hk a b=>⟨a,fun e=>by
  rcases ap.block with e3|e3
  ·rw[e3]at e;exact b e
  ·rw[e3]at e;cases e;have:=h.low.size;omega⟩
 refine⟨⟨Blk.set hB 4 _,(k _ (by omega)).trans hR,⟨h.own.year,h.own.farm,h.own.ver,haw.blocks fun i e _ _=>k i (h.ga i e).1,hO.blocks fun i e _ _=>k i (na i e).1,?_⟩,?_,h.le,h.ga,na,fun i hi a b=>(k i (by omega)).trans ((ap.far i (nll hi h.low.size) b).trans (h.fa i hi a b))⟩,hnw⟩
 ·intro g hg e
  rcases ap.block with hb|hb
  ·exact h.own.ap g hg (hb▸e)
  ·have h3:=own_lt h.own.aw hg
   rw[hb]at e
   cases e
   omega
 ·exact(h.low.trans ap.below).setCell (p:=⟨w.heap.size,4,none⟩) h.le _
theorem weq {x:ByteArray}{l:List UInt8}(h:x.data.toList=l):(x.toList==l)=true:=by rw[ByteArray.toList_eq];simpa using h
theorem wne {x:ByteArray}{l:List UInt8}(h:x.data.toList≠l):(x.toList==l)=false:=by rw[ByteArray.toList_eq];simpa using h
theorem DOnil (y f v:Int)(B:Nat)(w:World):DO B w ⟨y,f,v,none,0,0,none,0,0⟩ ⟨y,f,v, [], []⟩:=⟨rfl,rfl,rfl,OwnR.nil _ _ _,OwnR.nil _ _ _,Apart.nil _⟩
theorem Nw.nil (w:World)(r:RD)(y f v:Int):Nw w r ⟨y,f,v,none,0,0,none,0,0⟩:=by intro h _ _ _;exact⟨fun e=>(by cases e),fun e=>(by cases e)⟩
theorem ln_pre (B:Nat)(r:RD)(D:Dec)(one x:ByteArray)(ws:List ByteArray)(m:Nat)(w:World)(hD:DO B w r D)(hE:Env w)(hB:B≤w.heap.size)(hone:one.size≤16384)(hp:x::ws=(Wo.pcs 32 [] one.data.toList).map bs)(hm:ws.length=m) :
  ∃W2,Calls Tryz.prog 69 #[.string one,.string ⟨#[32]⟩] ((w.alloc (.cells #[I O r.year,I O r.farm,I O r.ver,.slice r.ap r.an r.ac,.slice r.rp r.rn r.rc] 26)).alloc (.cells #[I O 0,I O 0,I O 0,.slice none 0 0,.slice none 0 0] 26)) (fun e w' => e = .returned (.slice (some ⟨w.heap.size+2,0,none⟩) (m+1) (m+1))∧w' = W2)∧LnF w W2 r r D B∧Recs SB W2 (some ⟨w.heap.size+2,0,none⟩) (x::ws)∧(∀y∈ws,y.size≤16384)∧m≤20000:=by
 have hplen:=Wo.pcs_len 32 one.data.toList [];rw[size_len]at hplen;have hsub:=pcs_sub35 32 one.data.toList [];have hm1:(x::ws).length≤one.size+1:=by rw[hp,List.length_map];exact hplen
 rw[List.length_cons,hm]at hm1;have hz:∀y∈ws,y.size≤16384:=fun y hy=>by
  have:y∈(Wo.pcs 32 [] one.data.toList).map bs:=by rw[← hp];exact List.mem_cons_of_mem _ hy
  obtain⟨y0,hy0,rfl⟩:=List.mem_map.1 this;have:=(hsub y0 hy0).length_le;rw[List.nil_append,size_len]at this;rw[bs_size];omega
 have S1:((w.alloc (.cells #[I O r.year,I O r.farm,I O r.ver,.slice r.ap r.an r.ac,.slice r.rp r.rn r.rc] 26)).alloc (.cells #[I O 0,I O 0,I O 0,.slice none 0 0,.slice none 0 0] 26)).heap.size=w.heap.size+2:=by simp
 have B1:Below w.heap.size w ((w.alloc (.cells #[I O r.year,I O r.farm,I O r.ver,.slice r.ap r.an r.ac,.slice r.rp r.rn r.rc] 26)).alloc (.cells #[I O 0,I O 0,I O 0,.slice none 0 0,.slice none 0 0] 26)):=((brf _ _).alloc mle _).alloc (by simp) _;have X1:Blk ((w.alloc (.cells #[I O r.year,I O r.farm,I O r.ver,.slice r.ap r.an r.ac,.slice r.rp r.rn r.rc] 26)).alloc (.cells #[I O 0,I O 0,I O 0,.slice none 0 0,.slice none 0 0] 26)) w.heap.size #[I O r.year,I O r.farm,I O r.ver,.slice r.ap r.an r.ac,.slice r.rp r.rn r.rc] 26:=(Blk.new w #[I O r.year,I O r.farm,I O r.ver,.slice r.ap r.an r.ac,.slice r.rp r.rn r.rc] 26).below ((brf _ _).alloc mle _);have Y1:Blk ((w.alloc (.cells #[I O r.year,I O r.farm,I O r.ver,.slice r.ap r.an r.ac,.slice r.rp r.rn r.rc] 26)).alloc (.cells #[I O 0,I O 0,I O 0,.slice none 0 0,.slice none 0 0] 26)) (w.heap.size+1) #[I O 0,I O 0,I O 0,.slice none 0 0,.slice none 0 0] 26:=by
  have:=Blk.new (w.alloc (.cells #[I O r.year,I O r.farm,I O r.ver,.slice r.ap r.an r.ac,.slice r.rp r.rn r.rc] 26)) #[I O 0,I O 0,I O 0,.slice none 0 0,.slice none 0 0] 26;rw[show(w.alloc (.cells #[I O r.year,I O r.farm,I O r.ver,.slice r.ap r.an r.ac,.slice r.rp r.rn r.rc] 26)).heap.size=w.heap.size+1 by simp]at this;exact this
 generalize (w.alloc (.cells #[I O r.year,I O r.farm,I O r.ver,.slice r.ap r.an r.ac,.slice r.rp r.rn r.rc] 26)).alloc (.cells #[I O 0,I O 0,I O 0,.slice none 0 0,.slice none 0 0] 26)=W1 at *;have SP:=splitW_any one W1 (hE.below B1) (by omega) hp (n:=m+1) (by rw[List.length_cons,hm]);have R2:Recs SB (W1.alloc (.cells (SB.flat (x::ws)).toArray 9)) (some ⟨W1.heap.size,0,none⟩) (x::ws):=Recs.lit (S:=SB) W1 9 (x::ws) (by rw[List.length_cons,hm];unfold maxLen;omega);have B2:Below W1.heap.size W1 (W1.alloc (.cells (SB.flat (x::ws)).toArray 9)):=(brf _ _).alloc mle _;rw[S1]at SP R2
 push_cast at SP
 refine⟨_,SP,⟨X1.below B2,Y1.below B2,(hD.below B1).below B2,(B1.mono hB).trans (B2.mono (by omega)),hB,fun k e=>?_,fun k e=>?_,fun k hk _ _=>(B2.block k (by omega)).trans (B1.block k hk)⟩,R2,hz,by omega⟩
 ·have:=own_lt hD.aw e;omega
 ·have:=own_lt hD.rs e;omega
theorem refline35_first (B:Nat)(r:RD)(D:Dec)(one x:ByteArray)(ws:List ByteArray)(m:Nat)(w:World)(hD:DO B w r D)(hE:Env w)(hB:B≤w.heap.size)(hone:one.size≤16384)(hp:x::ws=(Wo.pcs 32 [] one.data.toList).map bs)(hm:ws.length=m):Calls Tryz.prog 44 #[.agg (dCells r).toArray,I O 1,.string one] w (RLnG B r (lineR D true (tl (x::ws))) w):=by
 obtain⟨W2,hsp,hF,hR,hz,hl⟩:=ln_pre B r D one x ws m w hD hE hB hone hp hm;have SP:=mh hsp;have HF:=mh hF;have NU:=mh (show Calls Tryz.prog 75 #[.slice (some ⟨w.heap.size+2,0,none⟩) (m+1) (m+1),I O 3] W2 (NumsG (tl ws) 3 W2) from refread35_any _ x ws m (m+1) 3 W2 hm hR hz hl (by omega));unfold NumsG at NU;have hlx:w.heap.size+2<W2.heap.size∧W2.cell? ⟨w.heap.size+2,0,none⟩=some (.string x):=by
  obtain⟨b,off,e,h1,h2⟩:=SB_at hR (k:=0) (by simp)
  cases e
  simp only[List.getElem_cons_zero,Nat.add_zero]at h2;exact⟨h1,h2⟩
 obtain⟨hlq,hcx⟩:=hlx;have hm0:0≤(m:Int):=inn _;clear hsp hF hR hz hD hE hB hone hp;simp only[dCells];have HLR:lineR D true (tl (x::ws))=if (numsB (tl ws) 3&&decide (x.data.toList=wDecision))=true then some (⟨nvs (tl ws) 0,nvs (tl ws) 1,nvs (tl ws) 2, [], []⟩,0,false) else none:=rfl
 cases hb:numsB (tl ws) 3
 ·have HN:=mh (show lineR D true (tl (x::ws))=none from by rw[HLR,hb];rfl)
  rw[hb]at NU;clear hb HLR
  go_enter Tryz.func44,Tryz.ntmps44
  go_upto_region 1 with fail
  generalize (w.alloc (.cells #[I O r.year,I O r.farm,I O r.ver,.slice r.ap r.an r.ac,.slice r.rp r.rn r.rc] 26)).alloc (.cells #[I O 0,I O 0,I O 0,.slice none 0 0,.slice none 0 0] 26)=W1 at *
  go_wp2_with (first|(go_at_call 69;(with_reducible refine cmo SP.out ?_);rintro e w1 ⟨rfl,rfl⟩)|(go_at_call 75;(with_reducible refine cmo NU.out ?_);rintro e w3 ⟨v1,rfl, -,hb3⟩;have HF3:=mh (HF.out.below hb3);have cx:=(hb3.cell (p:=⟨w.heap.size+2,0,none⟩) hlq).trans hcx;obtain⟨t0,t0f,t1,t1f,t2,t2f,t3,t3f,t4,t4f⟩:=HF3.out.res.f5;obtain⟨d0,d1,d2,d3,d4⟩:=HF3.out.box.c5;skip;clear hb3)|fail)
  exact post5 (v := .tuple #[.agg #[I O r.year,I O r.farm,I O r.ver,.slice r.ap r.an r.ac,.slice r.rp r.rn r.rc],I O 0,.bool false,.bool false]) HF3.out.res rfl fun wf PB PK=>⟨by obtain⟨c0,c1,c2,c3,c4⟩:=PB.c5;simp[results,Tryz.results44,go_sem,c0,c1,c2,c3,c4],⟨r,0,false,by rw[HN.out];rfl,(fun _ _ _ h=>by rw[HN.out]at h;cases h),HF3.out.low.trans (PK.below (Nat.le_trans HF3.out.le (Nat.le_succ _)) (Nat.le_trans HF3.out.le HF3.out.sz)),HF3.out.fab PK⟩⟩
 have HG:=mh (fun (v:Value) (w1:World) (h:true=true→OwnR SI w1 3 W2.heap.size v ((tl ws).map nv))=>NumsG.good hb (fun _=>h rfl))
 by_cases hw:x.data.toList=wDecision
 rotate_left
 ·have HN:=mh (show lineR D true (tl (x::ws))=none from by rw[HLR,hb,dqf hw];rfl)
  rw[hb]at NU;have hx:(x.toList == [100,101,99,105,115,105,111,110])=false:=wne hw;have hx2:¬x.toList = [100,101,99,105,115,105,111,110]:=by rw[ByteArray.toList_eq];exact hw
  clear hb HLR hw
  go_enter Tryz.func44,Tryz.ntmps44
  go_upto_region 1 with fail
  generalize (w.alloc (.cells #[I O r.year,I O r.farm,I O r.ver,.slice r.ap r.an r.ac,.slice r.rp r.rn r.rc] 26)).alloc (.cells #[I O 0,I O 0,I O 0,.slice none 0 0,.slice none 0 0] 26)=W1 at *
  go_wp2_with (first|(go_at_call 69;(with_reducible refine cmo SP.out ?_);rintro e w1 ⟨rfl,rfl⟩)|(go_at_call 75;(with_reducible refine cmo NU.out ?_);rintro e w3 ⟨v1,rfl, -,hb3⟩;have HF3:=mh (HF.out.below hb3);have cx:=(hb3.cell (p:=⟨w.heap.size+2,0,none⟩) hlq).trans hcx;obtain⟨t0,t0f,t1,t1f,t2,t2f,t3,t3f,t4,t4f⟩:=HF3.out.res.f5;obtain⟨d0,d1,d2,d3,d4⟩:=HF3.out.box.c5;skip;clear hb3)|fail)
  exact post5 (v := .tuple #[.agg #[I O r.year,I O r.farm,I O r.ver,.slice r.ap r.an r.ac,.slice r.rp r.rn r.rc],I O 0,.bool false,.bool false]) HF3.out.res rfl fun wf PB PK=>⟨by obtain⟨c0,c1,c2,c3,c4⟩:=PB.c5;simp[results,Tryz.results44,go_sem,c0,c1,c2,c3,c4],⟨r,0,false,by rw[HN.out];rfl,(fun _ _ _ h=>by rw[HN.out]at h;cases h),HF3.out.low.trans (PK.below (Nat.le_trans HF3.out.le (Nat.le_succ _)) (Nat.le_trans HF3.out.le HF3.out.sz)),HF3.out.fab PK⟩⟩
 have HN:=mh (show lineR D true (tl (x::ws))=some (⟨nvs (tl ws) 0,nvs (tl ws) 1,nvs (tl ws) 2, [], []⟩,0,false) from by rw[HLR,hb,dqt hw];rfl);rw[hb]at NU;have hx:(x.toList == [100,101,99,105,115,105,111,110])=true:=weq hw;have hx2:x.toList = [100,101,99,105,115,105,111,110]:=by rw[ByteArray.toList_eq];exact hw
 clear hb HLR hw;obtain⟨x0,ex0⟩:∃x,nvs (tl ws) 0=x:=⟨_,rfl⟩;obtain⟨x1,ex1⟩:∃x,nvs (tl ws) 1=x:=⟨_,rfl⟩;obtain⟨x2,ex2⟩:∃x,nvs (tl ws) 2=x:=⟨_,rfl⟩;rw[ex0,ex1,ex2]at HN;have EX:=mh (And.intro ex0 (And.intro ex1 ex2));clear ex0 ex1 ex2
 go_enter Tryz.func44,Tryz.ntmps44
 go_upto_region 1 with fail
 generalize (w.alloc (.cells #[I O r.year,I O r.farm,I O r.ver,.slice r.ap r.an r.ac,.slice r.rp r.rn r.rc] 26)).alloc (.cells #[I O 0,I O 0,I O 0,.slice none 0 0,.slice none 0 0] 26)=W1 at *
 go_upto_region 6 with (first|(go_at_call 69;(with_reducible refine cmo SP.out ?_);rintro e w1 ⟨rfl,rfl⟩)|(go_at_call 75;(with_reducible refine cmo NU.out ?_);rintro e w3 ⟨v1,rfl,ho1,hb3⟩;have HF3:=mh (HF.out.below hb3);have cx:=(hb3.cell (p:=⟨w.heap.size+2,0,none⟩) hlq).trans hcx;obtain⟨t0,t0f,t1,t1f,t2,t2f,t3,t3f,t4,t4f⟩:=HF3.out.res.f5;obtain⟨d0,d1,d2,d3,d4⟩:=HF3.out.box.c5;obtain⟨b,off,c1,rfl,hwb,hbl,hc⟩:=HG.out v1 w3 ho1;obtain⟨ex0,ex1,ex2⟩:=EX.out;have g0:=hc 0 (by omega);have g1:=hc 1 (by omega);have g2:=hc 2 (by omega);rw[Nat.add_zero,ex0]at g0;rw[ex1]at g1;rw[ex2]at g2;clear ex0 ex1 ex2 hc;skip;clear hb3)|fail)
 have hne:b≠w.heap.size+1:=by omega
 go_region
 go_wp2
 exact post5d (v := .tuple #[.agg #[I O x0,I O x1,I O x2,.slice none 0 0,.slice none 0 0],I O 0,.bool false,.bool true]) HF3.out.res rfl fun wf PB PK=>⟨by obtain⟨c0,c1,c2,c3,c4⟩:=PB.c5;simp[results,Tryz.results44,go_sem,c0,c1,c2,c3,c4],⟨⟨x0,x1,x2,none,0,0,none,0,0⟩,0,false,by rw[HN.out];rfl,(fun D1 v1 e1 h=>by rw[HN.out]at h;cases h;exact⟨DOnil x0 x1 x2 _ _,rfl,rfl,Nw.nil _ _ _ _ _⟩),HF3.out.low.trans (PK.below (Nat.le_trans HF3.out.le (Nat.le_succ _)) (Nat.le_trans HF3.out.le HF3.out.sz)),HF3.out.fab PK⟩⟩
theorem refline35_award (B:Nat)(r:RD)(D:Dec)(one x:ByteArray)(ws:List ByteArray)(m:Nat)(w:World)(hD:DO B w r D)(hE:Env w)(hB:B≤w.heap.size)(hone:one.size≤16384)(hp:x::ws=(Wo.pcs 32 [] one.data.toList).map bs)(hm:ws.length=m)(n:Int)(hn:(n==1)=false)(hw:x.data.toList=wAward)(hal:D.aw.length≤100000):Calls Tryz.prog 44 #[.agg (dCells r).toArray,I O n,.string one] w (RLnG B r (lineR D false (tl (x::ws))) w):=by
 have hrn:=hD.dv.rn;obtain⟨W2,hsp,hF,hR,hz,hl⟩:=ln_pre B r D one x ws m w hD hE hB hone hp hm;have SP:=mh hsp;have HF:=mh hF;have NU:=mh (show Calls Tryz.prog 75 #[.slice (some ⟨w.heap.size+2,0,none⟩) (m+1) (m+1),I O 8] W2 (NumsG (tl ws) 8 W2) from refread35_any _ x ws m (m+1) 8 W2 hm hR hz hl (by omega));unfold NumsG at NU;have hlx:w.heap.size+2<W2.heap.size∧W2.cell? ⟨w.heap.size+2,0,none⟩=some (.string x):=by
  obtain⟨b,off,e,h1,h2⟩:=SB_at hR (k:=0) (by simp)
  cases e
  simp only[List.getElem_cons_zero,Nat.add_zero]at h2;exact⟨h1,h2⟩
 obtain⟨hlq,hcx⟩:=hlx;have hm0:0≤(m:Int):=inn _;clear hsp hF hR hz hD hE hB hone hp;simp only[dCells];have HLR:lineR D false (tl (x::ws))=if (numsB (tl ws) 8&&D.rs.isEmpty)=true then some ({ D with aw:=D.aw ++ [⟨D.farm,nvs (tl ws) 0,nvs (tl ws) 1,nvs (tl ws) 2,nvs (tl ws) 3,nvs (tl ws) 4,nvs (tl ws) 5,nvs (tl ws) 6,nvs (tl ws) 7⟩] },0,false) else none:=by
  show lineR D false (x.data.toList::tl ws)=_
  rw[lineR_cons,if_neg (by decide),if_pos hw]
 have hx1:(x.toList == [97,119,97,114,100])=true:=weq hw;clear hw
 cases hb:numsB (tl ws) 8
 ·have HN:=mh (show lineR D false (tl (x::ws))=none from by rw[HLR,hb];rfl)
  rw[hb]at NU;clear hb HLR hrn
  go_enter Tryz.func44,Tryz.ntmps44
  go_upto_region 1 with fail
  generalize (w.alloc (.cells #[I O r.year,I O r.farm,I O r.ver,.slice r.ap r.an r.ac,.slice r.rp r.rn r.rc] 26)).alloc (.cells #[I O 0,I O 0,I O 0,.slice none 0 0,.slice none 0 0] 26)=W1 at *
  go_wp2_with (first|(go_at_call 69;(with_reducible refine cmo SP.out ?_);rintro e w1 ⟨rfl,rfl⟩)|(go_at_call 75;(with_reducible refine cmo NU.out ?_);rintro e w3 ⟨v1,rfl, -,hb3⟩;have HF3:=mh (HF.out.below hb3);have cx:=(hb3.cell (p:=⟨w.heap.size+2,0,none⟩) hlq).trans hcx;obtain⟨t0,t0f,t1,t1f,t2,t2f,t3,t3f,t4,t4f⟩:=HF3.out.res.f5;obtain⟨d0,d1,d2,d3,d4⟩:=HF3.out.box.c5;skip;clear hb3)|fail)
  exact post5 (v := .tuple #[.agg #[I O r.year,I O r.farm,I O r.ver,.slice r.ap r.an r.ac,.slice r.rp r.rn r.rc],I O 0,.bool false,.bool false]) HF3.out.res rfl fun wf PB PK=>⟨by obtain⟨c0,c1,c2,c3,c4⟩:=PB.c5;simp[results,Tryz.results44,go_sem,c0,c1,c2,c3,c4],⟨r,0,false,by rw[HN.out];rfl,(fun _ _ _ h=>by rw[HN.out]at h;cases h),HF3.out.low.trans (PK.below (Nat.le_trans HF3.out.le (Nat.le_succ _)) (Nat.le_trans HF3.out.le HF3.out.sz)),HF3.out.fab PK⟩⟩
 have HG:=mh (fun (v:Value) (w1:World) (h:true=true→OwnR SI w1 3 W2.heap.size v ((tl ws).map nv))=>NumsG.good hb (fun _=>h rfl))
 by_cases hrs:D.rs = []
 rotate_left
 ·have HN:=mh (show lineR D false (tl (x::ws))=none from by rw[HLR,hb];simp[hrs])
  have hrn0:(0:Int)<(r.rn:Int):=by have:=List.length_pos_iff.2 hrs;omega
  rw[hb]at NU;clear hb HLR hrs hrn
  go_enter Tryz.func44,Tryz.ntmps44
  go_upto_region 1 with fail
  generalize (w.alloc (.cells #[I O r.year,I O r.farm,I O r.ver,.slice r.ap r.an r.ac,.slice r.rp r.rn r.rc] 26)).alloc (.cells #[I O 0,I O 0,I O 0,.slice none 0 0,.slice none 0 0] 26)=W1 at *
  go_wp2_with (first|(go_at_call 69;(with_reducible refine cmo SP.out ?_);rintro e w1 ⟨rfl,rfl⟩)|(go_at_call 75;(with_reducible refine cmo NU.out ?_);rintro e w3 ⟨v1,rfl, -,hb3⟩;have HF3:=mh (HF.out.below hb3);have cx:=(hb3.cell (p:=⟨w.heap.size+2,0,none⟩) hlq).trans hcx;obtain⟨t0,t0f,t1,t1f,t2,t2f,t3,t3f,t4,t4f⟩:=HF3.out.res.f5;obtain⟨d0,d1,d2,d3,d4⟩:=HF3.out.box.c5;skip;clear hb3)|fail)
  exact post5 (v := .tuple #[.agg #[I O r.year,I O r.farm,I O r.ver,.slice r.ap r.an r.ac,.slice r.rp r.rn r.rc],I O 0,.bool false,.bool false]) HF3.out.res rfl fun wf PB PK=>⟨by obtain⟨c0,c1,c2,c3,c4⟩:=PB.c5;simp[results,Tryz.results44,go_sem,c0,c1,c2,c3,c4],⟨r,0,false,by rw[HN.out];rfl,(fun _ _ _ h=>by rw[HN.out]at h;cases h),HF3.out.low.trans (PK.below (Nat.le_trans HF3.out.le (Nat.le_succ _)) (Nat.le_trans HF3.out.le HF3.out.sz)),HF3.out.fab PK⟩⟩
 have HN:=mh (show lineR D false (tl (x::ws))=some ({ D with aw:=D.aw ++ [⟨D.farm,nvs (tl ws) 0,nvs (tl ws) 1,nvs (tl ws) 2,nvs (tl ws) 3,nvs (tl ws) 4,nvs (tl ws) 5,nvs (tl ws) 6,nvs (tl ws) 7⟩] },0,false) from by rw[HLR,hb,hrs];rfl);have hrn0:r.rn=0:=by rw[hrn,hrs];rfl
 have hrn1:¬(0:Int)<(r.rn:Int):=by omega
 have HAL:=mh hal;rw[hb]at NU;clear hb HLR hrs hrn hrn0 hal;obtain⟨x0,ex0⟩:∃x,nvs (tl ws) 0=x:=⟨_,rfl⟩;obtain⟨x1,ex1⟩:∃x,nvs (tl ws) 1=x:=⟨_,rfl⟩;obtain⟨x2,ex2⟩:∃x,nvs (tl ws) 2=x:=⟨_,rfl⟩;obtain⟨x3,ex3⟩:∃x,nvs (tl ws) 3=x:=⟨_,rfl⟩;obtain⟨x4,ex4⟩:∃x,nvs (tl ws) 4=x:=⟨_,rfl⟩;obtain⟨x5,ex5⟩:∃x,nvs (tl ws) 5=x:=⟨_,rfl⟩;obtain⟨x6,ex6⟩:∃x,nvs (tl ws) 6=x:=⟨_,rfl⟩;obtain⟨x7,ex7⟩:∃x,nvs (tl ws) 7=x:=⟨_,rfl⟩;rw[ex0,ex1,ex2,ex3,ex4,ex5,ex6,ex7]at HN;have EX:=mh (And.intro ex0 (And.intro ex1 (And.intro ex2 (And.intro ex3 (And.intro ex4 (And.intro ex5 (And.intro ex6 ex7)))))));clear ex0 ex1 ex2 ex3 ex4 ex5 ex6 ex7
 go_enter Tryz.func44,Tryz.ntmps44
 go_upto_region 1 with fail
 generalize (w.alloc (.cells #[I O r.year,I O r.farm,I O r.ver,.slice r.ap r.an r.ac,.slice r.rp r.rn r.rc] 26)).alloc (.cells #[I O 0,I O 0,I O 0,.slice none 0 0,.slice none 0 0] 26)=W1 at *
 go_upto_region 12 with (first|(go_at_call 69;(with_reducible refine cmo SP.out ?_);rintro e w1 ⟨rfl,rfl⟩)|(go_at_call 75;(with_reducible refine cmo NU.out ?_);rintro e w3 ⟨v1,rfl,ho1,hb3⟩;have HF3:=mh (HF.out.below hb3);have cx:=(hb3.cell (p:=⟨w.heap.size+2,0,none⟩) hlq).trans hcx;obtain⟨t0,t0f,t1,t1f,t2,t2f,t3,t3f,t4,t4f⟩:=HF3.out.res.f5;obtain⟨d0,d1,d2,d3,d4⟩:=HF3.out.box.c5;obtain⟨b,off,c1,rfl,hwb,hbl,hc⟩:=HG.out v1 w3 ho1;obtain⟨ex0,ex1,ex2,ex3,ex4,ex5,ex6,ex7⟩:=EX.out;have g0:=hc 0 (by omega);have g1:=hc 1 (by omega);have g2:=hc 2 (by omega);have g3:=hc 3 (by omega);have g4:=hc 4 (by omega);have g5:=hc 5 (by omega);have g6:=hc 6 (by omega);have g7:=hc 7 (by omega);rw[Nat.add_zero,ex0]at g0;rw[ex1]at g1;rw[ex2]at g2;rw[ex3]at g3;rw[ex4]at g4;rw[ex5]at g5;rw[ex6]at g6;rw[ex7]at g7;clear ex0 ex1 ex2 ex3 ex4 ex5 ex6 ex7 hc;have NB:=mh (show(Value.slice r.ap r.an r.ac).ownBlock≠some b from fun e=>by have h1:=own_lt HF.out.own.aw e;omega);skip;clear hb3)|fail)
 rw[HF3.out.own.farm]at d1;clear t0 t1 t2 t3 t4 t0f t1f t2f t3f t4f d0 d2 d4 cx hcx hlq;have KS:=mh (show ∀W:World,W.heap[b]?=w3.heap[b]?→W.heap[w.heap.size]?=w3.heap[w.heap.size]?→(W.cell? ⟨b,off,none⟩=some (I O x0)∧W.cell? ⟨b,off+1,none⟩=some (I O x1)∧W.cell? ⟨b,off+2,none⟩=some (I O x2)∧W.cell? ⟨b,off+3,none⟩=some (I O x3)∧W.cell? ⟨b,off+4,none⟩=some (I O x4)∧W.cell? ⟨b,off+5,none⟩=some (I O x5)∧W.cell? ⟨b,off+6,none⟩=some (I O x6)∧W.cell? ⟨b,off+7,none⟩=some (I O x7)∧W.cell? ⟨w.heap.size,1,none⟩=some (I O D.farm)∧W.cell? ⟨w.heap.size,3,none⟩=some (.slice r.ap r.an r.ac)) from fun W hb2 ht2=>⟨(World.cell?_of_block (w:=w3) hb2).trans g0,(World.cell?_of_block (w:=w3) hb2).trans g1,(World.cell?_of_block (w:=w3) hb2).trans g2,(World.cell?_of_block (w:=w3) hb2).trans g3,(World.cell?_of_block (w:=w3) hb2).trans g4,(World.cell?_of_block (w:=w3) hb2).trans g5,(World.cell?_of_block (w:=w3) hb2).trans g6,(World.cell?_of_block (w:=w3) hb2).trans g7,(World.cell?_of_block (w:=w3) ht2).trans d1,(World.cell?_of_block (w:=w3) ht2).trans d3⟩);have BL:=mh (And.intro hbl HF3.out.box.lt);have SR:=mh (show Recs SA (w3.drew.alloc (.cells #[I O D.farm,I O x0,I O x1,I O x2,I O x3,I O x4,I O x5,I O x6,I O x7] 78)) (some ⟨w3.heap.size,0,none⟩) [⟨D.farm,x0,x1,x2,x3,x4,x5,x6,x7⟩] from Recs.lit (S:=SA) _ _ [⟨D.farm,x0,x1,x2,x3,x4,x5,x6,x7⟩] (by show 1≤_;unfold maxLen;omega));refine wp_region_K (fun w' => w'.cell? ⟨b,off,none⟩=some (I O x0)∧w'.cell? ⟨b,off+1,none⟩=some (I O x1)∧w'.cell? ⟨b,off+2,none⟩=some (I O x2)∧w'.cell? ⟨b,off+3,none⟩=some (I O x3)∧w'.cell? ⟨b,off+4,none⟩=some (I O x4)∧w'.cell? ⟨b,off+5,none⟩=some (I O x5)∧w'.cell? ⟨b,off+6,none⟩=some (I O x6)∧w'.cell? ⟨b,off+7,none⟩=some (I O x7)∧w'.cell? ⟨w.heap.size,1,none⟩=some (I O D.farm)∧w'.cell? ⟨w.heap.size,3,none⟩=some (.slice r.ap r.an r.ac)) 32 (by kernel_rfl) (KS.out _ rfl rfl) (fun hHeld=>?_);clear g0 g1 g2 g3 g4 g5 g6 g7 d1 d3;refine tkK 0 66 (by assumption) ?_;refine tkK 1 67 (by assumption) ?_;refine tkK 2 68 (by assumption) ?_;refine tkK 3 69 (by assumption) ?_;refine tkK 4 70 (by assumption) ?_;refine tkK 5 71 (by assumption) ?_;refine tkK 6 72 (by assumption) ?_;refine tkK 7 73 (by assumption) ?_;refine tkK 8 74 (by assumption) ?_;refine tkK 9 75 (by assumption) ?_;refine tkK 10 76 (by assumption) ?_;refine tkK 11 77 (by assumption) ?_;refine tkK 12 78 (by assumption) ?_;refine tkK 13 79 (by assumption) ?_;refine tkK 14 80 (by assumption) ?_;refine tkK 15 81 (by assumption) ?_;refine tkK 16 82 (by assumption) ?_;refine tkK 17 83 (by assumption) ?_;refine tkK 18 84 (by assumption) ?_;refine tkK 19 85 (by assumption) ?_
 refine tkK 20 86 (by assumption) ?_
 refine tkK 21 87 (by assumption) ?_
 refine tkK 22 88 (by assumption) ?_
 refine tkK 23 89 (by assumption) ?_
 refine tkK 24 90 (by assumption) ?_
 refine tkK 25 91 (by assumption) ?_
 refine tkK 26 92 (by assumption) ?_
 refine tkK 27 93 (by assumption) ?_
 refine tkK 28 94 (by assumption) ?_
 refine wpAnyK_one (i:=29) (o:=⟨some 95,_,_,_,_,_⟩) (by kernel_rfl) (by kernel_rfl) rfl (fun K hK=>?_)
 go_simp
 have BA:=mh (show Below w3.heap.size w3 (w3.drew.alloc (.cells #[I O D.farm,I O x0,I O x1,I O x2,I O x3,I O x4,I O x5,I O x6,I O x7] 78)) from(brf _ _).drew.alloc mle _);have hHeld2:=KS.out _ (BA.out.block _ BL.out.1) (BA.out.block _ BL.out.2);refine hK.out _ _ hHeld2 ?_;clear hK K
 (try dsimp only[Act.put])
 try simp only[mnA,mnB,mnC]
 refine wpAnyK_one (i:=30) (o:=⟨some 96,_,_,_,_,_⟩) (by kernel_rfl) (by kernel_rfl) rfl (fun K hK=>?_)
 refine OwnR.stepAp el_awd (by rfl) (.tmp 67) (.tmp 95) (by rfl) B (.slice r.ap r.an r.ac) D.aw [⟨D.farm,x0,x1,x2,x3,x4,x5,x6,x7⟩] (some ⟨w3.heap.size,0,none⟩) 1 1 rfl (HF3.out.own.aw.below BA.out) SR.out (fun h=>by cases h) (by rfl) (by rfl) (Nat.le_trans (Nat.le_trans HF3.out.le (Nat.le_of_lt BL.out.2)) BA.out.size) (by have:=HAL.out;simp;omega) (by decide) ?_
 intro v5 w5 hO5 hap5;have e1:=hap5.far b (nll BL.out.1 BA.out.size) NB.out;have e2:=hap5.far w.heap.size (nll BL.out.2 BA.out.size) (fun e=>(HF3.out.ga _ e).1 rfl);have hHeld3:=KS.out w5 (e1.trans (BA.out.block _ BL.out.1)) (e2.trans (BA.out.block _ BL.out.2));have hBx:Blk w5 w.heap.size #[I O r.year,I O r.farm,I O r.ver,.slice r.ap r.an r.ac,.slice r.rp r.rn r.rc] 26:=e2.trans ((BA.out.block _ BL.out.2).trans HF3.out.box);obtain⟨p5,n5,c5,rfl,hF6,hnw⟩:=(HF3.out.below BA.out).pushA hO5 hap5 mle;have HF6:=mh hF6;have HNW:=mh hnw;have k3' := hHeld3.2.2.2.2.2.2.2.2.2;have f3' := hBx.fr 3;have hlt5:=hBx.lt;clear hO5 hap5 e1 e2 hBx hF6 hnw;refine hK.out _ _ hHeld3 ?_;clear hK K
 (try dsimp only[Act.put])
 try simp only[mnA,mnB,mnC]
 refine wpAnyK_one (i:=31) (o:=⟨some 97,_,_,_,_,_⟩) (by kernel_rfl) (by kernel_rfl) rfl (fun K hK=>?_)
 go_simp
 refine hK.out _ _ hHeld3 ?_
 clear hK K
 (try dsimp only[Act.put])
 try simp only[mnA,mnB,mnC]
 refine wpAnyK_last (o:=⟨none,_,_,_,_,_⟩) (by kernel_rfl) rfl (fun K hK=>?_)
 go_simp
 refine hK.out _ _ ?_
 clear hK K
 (try dsimp only[Act.put])
 try simp only[mnA,mnB,mnC]
 refine wpAnyH_done (by kernel_rfl) ?_ _
 clear hHeld hHeld2 hHeld3 k3' f3' hlt5 KS BL SR NB;generalize (w5.setCell ⟨w.heap.size,3,none⟩ (.slice p5 (n5:Int).toNat c5))=w6 at *;obtain⟨t0,t0f,t1,t1f,t2,t2f,t3,t3f,t4,t4f⟩:=HF6.out.res.f5;obtain⟨d0,d1,d2,d3,d4⟩:=HF6.out.box.c5
 skip
 go_wp2
 exact post5 (v := .tuple #[.agg #[I O r.year,I O r.farm,I O r.ver,.slice p5 n5 c5,.slice r.rp r.rn r.rc],I O 0,.bool false,.bool true]) HF6.out.res rfl fun wf PB PK=>⟨by obtain⟨c0,c1,c2,c3,c4⟩:=PB.c5;simp[results,Tryz.results44,go_sem,c0,c1,c2,c3,c4],⟨{ r with ap:=p5,an:=n5,ac:=c5 },0,false,by rw[HN.out];rfl,(fun D1 v1 e1 h=>by rw[HN.out]at h;cases h;exact⟨HF6.out.dob PK,rfl,rfl,HNW.out⟩),HF6.out.low.trans (PK.below (Nat.le_trans HF6.out.le (Nat.le_succ _)) (Nat.le_trans HF6.out.le HF6.out.sz)),HF6.out.fab PK⟩⟩
theorem refline35_none (B:Nat)(r:RD)(D:Dec)(one x:ByteArray)(ws:List ByteArray)(m:Nat)(w:World)(hD:DO B w r D)(hE:Env w)(hB:B≤w.heap.size)(hone:one.size≤16384)(hp:x::ws=(Wo.pcs 32 [] one.data.toList).map bs)(hm:ws.length=m)(n:Int)(hn:(n==1)=false)(h1:x.data.toList≠wAward)(h2:x.data.toList≠wReason)(h3:x.data.toList≠wTotal):Calls Tryz.prog 44 #[.agg (dCells r).toArray,I O n,.string one] w (RLnG B r (lineR D false (tl (x::ws))) w):=by
 obtain⟨W2,hsp,hF,hR,hz,hl⟩:=ln_pre B r D one x ws m w hD hE hB hone hp hm;have SP:=mh hsp;have HF:=mh hF;have NU:=mh (show Calls Tryz.prog 75 #[.slice (some ⟨w.heap.size+2,0,none⟩) (m+1) (m+1),I O 8] W2 (NumsG (tl ws) 8 W2) from refread35_any _ x ws m (m+1) 8 W2 hm hR hz hl (by omega));unfold NumsG at NU;have hlx:w.heap.size+2<W2.heap.size∧W2.cell? ⟨w.heap.size+2,0,none⟩=some (.string x):=by
  obtain⟨b,off,e,h1,h2⟩:=SB_at hR (k:=0) (by simp)
  cases e
  simp only[List.getElem_cons_zero,Nat.add_zero]at h2;exact⟨h1,h2⟩
 obtain⟨hlq,hcx⟩:=hlx;have hm0:0≤(m:Int):=inn _;clear hsp hF hR hz hD hE hB hone hp;simp only[dCells]
 have HN:=mh (show lineR D false (tl (x::ws))=none from by
  show lineR D false (x.data.toList::tl ws)=_
  rw[lineR_cons,if_neg (by decide),if_neg h1,if_neg h2,if_neg h3])
 have hx1:(x.toList == [97,119,97,114,100])=false:=wne h1;have hx2:(x.toList == [114,101,97,115,111,110])=false:=wne h2;have hx3:(x.toList == [116,111,116,97,108])=false:=wne h3;clear h1 h2 h3 NU;obtain⟨t0,t0f,t1,t1f,t2,t2f,t3,t3f,t4,t4f⟩:=HF.out.res.f5;obtain⟨d0,d1,d2,d3,d4⟩:=HF.out.box.c5
 skip
 go_enter Tryz.func44,Tryz.ntmps44
 go_upto_region 1 with fail
 generalize (w.alloc (.cells #[I O r.year,I O r.farm,I O r.ver,.slice r.ap r.an r.ac,.slice r.rp r.rn r.rc] 26)).alloc (.cells #[I O 0,I O 0,I O 0,.slice none 0 0,.slice none 0 0] 26)=W1 at *
 go_wp2_with (go_at_call 69;(with_reducible refine cmo SP.out ?_);rintro e w1 ⟨rfl,rfl⟩)
 exact post5 (v := .tuple #[.agg #[I O r.year,I O r.farm,I O r.ver,.slice r.ap r.an r.ac,.slice r.rp r.rn r.rc],I O 0,.bool false,.bool false]) HF.out.res rfl fun wf PB PK=>⟨by obtain⟨c0,c1,c2,c3,c4⟩:=PB.c5;simp[results,Tryz.results44,go_sem,c0,c1,c2,c3,c4],⟨r,0,false,by rw[HN.out];rfl,(fun _ _ _ h=>by rw[HN.out]at h;cases h),HF.out.low.trans (PK.below (Nat.le_trans HF.out.le (Nat.le_succ _)) (Nat.le_trans HF.out.le HF.out.sz)),HF.out.fab PK⟩⟩
theorem refline35_total (B:Nat)(r:RD)(D:Dec)(one x:ByteArray)(ws:List ByteArray)(m:Nat)(w:World)(hD:DO B w r D)(hE:Env w)(hB:B≤w.heap.size)(hone:one.size≤16384)(hp:x::ws=(Wo.pcs 32 [] one.data.toList).map bs)(hm:ws.length=m)(n:Int)(hn:(n==1)=false)(hw:x.data.toList=wTotal):Calls Tryz.prog 44 #[.agg (dCells r).toArray,I O n,.string one] w (RLnG B r (lineR D false (tl (x::ws))) w):=by
 obtain⟨W2,hsp,hF,hR,hz,hl⟩:=ln_pre B r D one x ws m w hD hE hB hone hp hm;have SP:=mh hsp;have HF:=mh hF;have NU:=mh (show Calls Tryz.prog 75 #[.slice (some ⟨w.heap.size+2,0,none⟩) (m+1) (m+1),I O 1] W2 (NumsG (tl ws) 1 W2) from refread35_any _ x ws m (m+1) 1 W2 hm hR hz hl (by omega));unfold NumsG at NU;have hlx:w.heap.size+2<W2.heap.size∧W2.cell? ⟨w.heap.size+2,0,none⟩=some (.string x):=by
  obtain⟨b,off,e,h1,h2⟩:=SB_at hR (k:=0) (by simp)
  cases e
  simp only[List.getElem_cons_zero,Nat.add_zero]at h2;exact⟨h1,h2⟩
 obtain⟨hlq,hcx⟩:=hlx;have hm0:0≤(m:Int):=inn _;clear hsp hF hR hz hD hE hB hone hp;simp only[dCells];have HLR:lineR D false (tl (x::ws))=if numsB (tl ws) 1=true then some (D,nvs (tl ws) 0,true) else none:=by
  show lineR D false (x.data.toList::tl ws)=_
  rw[lineR_cons,if_neg (by decide),hw,if_neg (by decide),if_neg (by decide),if_pos rfl]
 have hx1:(x.toList == [97,119,97,114,100])=false:=wne (by rw[hw];decide);have hx2:(x.toList == [114,101,97,115,111,110])=false:=wne (by rw[hw];decide);have hx3:(x.toList == [116,111,116,97,108])=true:=weq hw;clear hw
 cases hb:numsB (tl ws) 1
 ·have HN:=mh (show lineR D false (tl (x::ws))=none from by rw[HLR,hb];rfl)
  rw[hb]at NU;clear hb HLR
  go_enter Tryz.func44,Tryz.ntmps44
  go_upto_region 1 with fail
  generalize (w.alloc (.cells #[I O r.year,I O r.farm,I O r.ver,.slice r.ap r.an r.ac,.slice r.rp r.rn r.rc] 26)).alloc (.cells #[I O 0,I O 0,I O 0,.slice none 0 0,.slice none 0 0] 26)=W1 at *
  go_wp2_with (first|(go_at_call 69;(with_reducible refine cmo SP.out ?_);rintro e w1 ⟨rfl,rfl⟩)|(go_at_call 75;(with_reducible refine cmo NU.out ?_);rintro e w3 ⟨v1,rfl, -,hb3⟩;have HF3:=mh (HF.out.below hb3);have cx:=(hb3.cell (p:=⟨w.heap.size+2,0,none⟩) hlq).trans hcx;obtain⟨t0,t0f,t1,t1f,t2,t2f,t3,t3f,t4,t4f⟩:=HF3.out.res.f5;obtain⟨d0,d1,d2,d3,d4⟩:=HF3.out.box.c5;skip;clear hb3)|fail)
  exact post5 (v := .tuple #[.agg #[I O r.year,I O r.farm,I O r.ver,.slice r.ap r.an r.ac,.slice r.rp r.rn r.rc],I O 0,.bool false,.bool false]) HF3.out.res rfl fun wf PB PK=>⟨by obtain⟨c0,c1,c2,c3,c4⟩:=PB.c5;simp[results,Tryz.results44,go_sem,c0,c1,c2,c3,c4],⟨r,0,false,by rw[HN.out];rfl,(fun _ _ _ h=>by rw[HN.out]at h;cases h),HF3.out.low.trans (PK.below (Nat.le_trans HF3.out.le (Nat.le_succ _)) (Nat.le_trans HF3.out.le HF3.out.sz)),HF3.out.fab PK⟩⟩
 have HG:=mh (fun (v:Value) (w1:World) (h:true=true→OwnR SI w1 3 W2.heap.size v ((tl ws).map nv))=>NumsG.good hb (fun _=>h rfl));have HN:=mh (show lineR D false (tl (x::ws))=some (D,nvs (tl ws) 0,true) from by rw[HLR,hb];rfl);rw[hb]at NU;clear hb HLR;obtain⟨x0,ex0⟩:∃x,nvs (tl ws) 0=x:=⟨_,rfl⟩;rw[ex0]at HN;have EX:=mh ex0;clear ex0
 go_enter Tryz.func44,Tryz.ntmps44
 go_upto_region 1 with fail
 generalize (w.alloc (.cells #[I O r.year,I O r.farm,I O r.ver,.slice r.ap r.an r.ac,.slice r.rp r.rn r.rc] 26)).alloc (.cells #[I O 0,I O 0,I O 0,.slice none 0 0,.slice none 0 0] 26)=W1 at *
 go_upto_region 22 with (first|(go_at_call 69;(with_reducible refine cmo SP.out ?_);rintro e w1 ⟨rfl,rfl⟩)|(go_at_call 75;(with_reducible refine cmo NU.out ?_);rintro e w3 ⟨v1,rfl,ho1,hb3⟩;have HF3:=mh (HF.out.below hb3);have cx:=(hb3.cell (p:=⟨w.heap.size+2,0,none⟩) hlq).trans hcx;obtain⟨t0,t0f,t1,t1f,t2,t2f,t3,t3f,t4,t4f⟩:=HF3.out.res.f5;obtain⟨d0,d1,d2,d3,d4⟩:=HF3.out.box.c5;obtain⟨b,off,c1,rfl,hwb,hbl,hc⟩:=HG.out v1 w3 ho1;have ex0:=EX.out;have g0:=hc 0 (by omega);rw[Nat.add_zero,ex0]at g0;clear ex0 hc;skip;clear hb3)|fail)
 have hne:b≠w.heap.size+1:=by omega
 go_region
 go_wp2
 exact post5d (v := .tuple #[.agg #[I O r.year,I O r.farm,I O r.ver,.slice r.ap r.an r.ac,.slice r.rp r.rn r.rc],I O x0,.bool true,.bool true]) HF3.out.res rfl fun wf PB PK=>⟨by obtain⟨c0,c1,c2,c3,c4⟩:=PB.c5;simp[results,Tryz.results44,go_sem,c0,c1,c2,c3,c4],⟨r,x0,true,by rw[HN.out];rfl,(fun D1 v1 e1 h=>by rw[HN.out]at h;cases h;exact⟨HF3.out.dob PK,rfl,rfl,fun _ _ a b=>⟨a,b⟩⟩),HF3.out.low.trans (PK.below (Nat.le_trans HF3.out.le (Nat.le_succ _)) (Nat.le_trans HF3.out.le HF3.out.sz)),HF3.out.fab PK⟩⟩
theorem refline35_reason (B:Nat)(r:RD)(D:Dec)(one x:ByteArray)(ws:List ByteArray)(m:Nat)(w:World)(hD:DO B w r D)(hE:Env w)(hB:B≤w.heap.size)(hone:one.size≤16384)(hp:x::ws=(Wo.pcs 32 [] one.data.toList).map bs)(hm:ws.length=m)(n:Int)(hn:(n==1)=false)(hw:x.data.toList=wReason)(hrl:D.rs.length≤100000):Calls Tryz.prog 44 #[.agg (dCells r).toArray,I O n,.string one] w (RLnG B r (lineR D false (tl (x::ws))) w):=by
 obtain⟨W2,hsp,hF,hR,hz,hl⟩:=ln_pre B r D one x ws m w hD hE hB hone hp hm;have SP:=mh hsp;have HF:=mh hF;have NU:=mh (show Calls Tryz.prog 75 #[.slice (some ⟨w.heap.size+2,0,none⟩) (m+1) (m+1),I O 1] W2 (NumsG (tl ws) 1 W2) from refread35_any _ x ws m (m+1) 1 W2 hm hR hz hl (by omega));unfold NumsG at NU;have hlx:w.heap.size+2<W2.heap.size∧W2.cell? ⟨w.heap.size+2,0,none⟩=some (.string x):=by
  obtain⟨b,off,e,h1,h2⟩:=SB_at hR (k:=0) (by simp)
  cases e
  simp only[List.getElem_cons_zero,Nat.add_zero]at h2;exact⟨h1,h2⟩
 obtain⟨hlq,hcx⟩:=hlx;have hm0:0≤(m:Int):=inn _;have RE:=mh (refreason35_any (some ⟨w.heap.size+2,0,none⟩) x ws m (m+1) W2 hm hR mle hz hl);unfold RrsG at RE;clear NU hsp hF hR hz hD hE hB hone hp;simp only[dCells]
 have HLR:=mh (show lineR D false (tl (x::ws))=if rsnB (tl ws)=true then some ({ D with rs:=D.rs ++ [⟨nvs (tl ws) 0,nvs (tl ws) 1,kindI ((tl ws).getD 2 [])⟩] },0,false) else none from by
  show lineR D false (x.data.toList::tl ws)=_
  rw[lineR_cons,if_neg (by decide),hw,if_neg (by decide),if_pos rfl])
 have hx1:(x.toList == [97,119,97,114,100])=false:=wne (by rw[hw];decide);have hx2:(x.toList == [114,101,97,115,111,110])=true:=weq hw;have HRL:=mh hrl;clear hw hrl;obtain⟨z,hzz⟩:∃z,rsnB (tl ws)=z:=⟨_,rfl⟩;rw[hzz]at HLR RE;clear hzz
 go_enter Tryz.func44,Tryz.ntmps44
 go_upto_region 1 with fail
 generalize (w.alloc (.cells #[I O r.year,I O r.farm,I O r.ver,.slice r.ap r.an r.ac,.slice r.rp r.rn r.rc] 26)).alloc (.cells #[I O 0,I O 0,I O 0,.slice none 0 0,.slice none 0 0] 26)=W1 at *
 go_upto_region 16 with (first|(go_at_call 69;(with_reducible refine cmo SP.out ?_);rintro e w1 ⟨rfl,rfl⟩)|(go_at_call 76;(with_reducible refine cmo RE.out ?_);rintro e w3 ⟨a,b,k,rfl,hv3,hb3⟩;have HV3:=mh hv3;have HF3:=mh (HF.out.below hb3);clear hb3 hv3)|fail)
 have N4:=mh (Blk.new w3 #[I O a,I O b,I O k] 76);have HF4:=mh (HF3.out.below (W' := w3.alloc (.cells #[I O a,I O b,I O k] 76)) ((brf _ _).alloc mle _));generalize w3.alloc (.cells #[I O a,I O b,I O k] 76)=w4 at *;obtain⟨h4,eh4⟩:∃h,w3.heap.size=h:=⟨_,rfl⟩;rw[eh4]at N4 ⊢;clear eh4 HF3 SP RE HF hcx hlq;have q0:=N4.out.cell 0;have q1:=N4.out.cell 1;have q2:=N4.out.cell 2;have d4:=HF4.out.box.cell 4;simp only[List.getElem?_toArray,List.getElem?_cons_zero,List.getElem?_cons_succ]at q0 q1 q2 d4
 go_upto_region 17 with (first|(at_builtin;(refine OwnR.append el_rsn rfl (.tmp 107) (.tmp 109) rfl B _ D.rs ⟨a,b,k⟩ #[I O a,I O b,I O k] rfl HF4.out.own.rs rfl (by simp[Act.eval]) (Nat.le_trans HF4.out.le (Nat.le_of_lt HF4.out.box.lt)) (by have:=HRL.out;omega) (by decide) ?_);intro v5 w5 hO5 hap5;have e2:=hap5.far w.heap.size HF4.out.box.lt (fun e=>(HF4.out.gr _ e).1 rfl);have hBx:Blk w5 w.heap.size #[I O r.year,I O r.farm,I O r.ver,.slice r.ap r.an r.ac,.slice r.rp r.rn r.rc] 26:=e2.trans HF4.out.box;obtain⟨p5,n5,c5,rfl,hF6,hnw⟩:=HF4.out.pushR hO5 hap5 (Nat.le_succ _);have HF6:=mh hF6;have HNW:=mh hnw;have k4:=hBx.cell 4;have f4:=hBx.fr 4;have hlt5:=hBx.lt;clear hO5 hap5 e2 hBx hF6 hnw)|fail)
 generalize (w5.setCell ⟨w.heap.size,4,none⟩ (.slice p5 n5 c5))=w6 at *;clear k4 f4 hlt5;obtain⟨t0,t0f,t1,t1f,t2,t2f,t3,t3f,t4,t4f⟩:=HF6.out.res.f5;obtain⟨d0,d1,d2,d3,d4⟩:=HF6.out.box.c5
 skip
 go_wp2
 exact post5 (v := .tuple #[.agg #[I O r.year,I O r.farm,I O r.ver,.slice r.ap r.an r.ac,.slice p5 n5 c5],I O 0,.bool false,.bool z]) HF6.out.res rfl fun wf PB PK=>⟨by obtain⟨c0,c1,c2,c3,c4⟩:=PB.c5;simp[results,Tryz.results44,go_sem,c0,c1,c2,c3,c4],⟨{ r with rp:=p5,rn:=n5,rc:=c5 },0,false,by
   have h9:=HLR.out
   cases z
   ·rw[h9];rfl
   ·rw[h9];rfl,(fun D1 v1 e1 h=>by
   rw[HLR.out]at h
   cases z
   ·cases h
   ·cases h
    obtain⟨rfl,rfl,rfl⟩:=HV3.out rfl
    exact⟨HF6.out.dob PK,rfl,rfl,HNW.out⟩),HF6.out.low.trans (PK.below (Nat.le_trans HF6.out.le (Nat.le_succ _)) (Nat.le_trans HF6.out.le HF6.out.sz)),HF6.out.fab PK⟩⟩
theorem refline35_any (B:Nat)(r:RD)(D:Dec)(n:Int)(one:ByteArray)(w:World)(hD:DO B w r D)(hE:Env w)(hB:B≤w.heap.size)(hone:one.size≤16384)(hal:D.aw.length≤100000)(hrl:D.rs.length≤100000) :
  Calls Tryz.prog 44 #[.agg (dCells r).toArray,I O n,.string one] w (RLnG B r (lineR D (n==1) (Wo.pcs 32 [] one.data.toList)) w):=by
 obtain⟨x0,r0,e0⟩:=pcs_some 32 one.data.toList [];have hp:bs x0::r0.map bs=(Wo.pcs 32 [] one.data.toList).map bs:=by rw[e0];rfl
 have hEQ:Wo.pcs 32 [] one.data.toList=tl (bs x0::r0.map bs):=by rw[e0];show x0::r0=(bs x0).data.toList::tl (r0.map bs);rw[bs_list,tl_bs]
 rw[hEQ]
 cases hn:(n==1)
 ·by_cases h1:(bs x0).data.toList=wAward
  ·exact refline35_award B r D one _ _ _ w hD hE hB hone hp rfl n hn h1 hal
  by_cases h2:(bs x0).data.toList=wReason
  ·exact refline35_reason B r D one _ _ _ w hD hE hB hone hp rfl n hn h2 hrl
  by_cases h3:(bs x0).data.toList=wTotal
  ·exact refline35_total B r D one _ _ _ w hD hE hB hone hp rfl n hn h3
  ·exact refline35_none B r D one _ _ _ w hD hE hB hone hp rfl n hn h1 h2 h3
 ·obtain rfl:n=1:=by simpa using hn
  exact refline35_first B r D one _ _ _ w hD hE hB hone hp rfl
end Go.Proofs.YtljibgchickcpaaGreatDoor
