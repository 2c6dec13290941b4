/- Packed. -/
import Derived.Test.YtljibgchickcpaaGreatDoorC5
set_option maxRecDepth 100000
set_option maxHeartbeats 8000000
open Go.Value renaming int → I
open Go.IntKind renaming i64 → O
namespace Go.Proofs.YtljibgchickcpaaGreatDoor
open Go.RowKit Sc As
/-! ### rows -/
structure RL where
 decl:Int
 sch:Int
 dp:Option Addr
 dn:Nat
 dc:Nat
 season:Int
 kind:Int
 area:Int
 border:Int
def lCells (r:RL):List Value := [I O r.decl,I O r.sch,.slice r.dp r.dn r.dc,I O r.season,I O r.kind,I O r.area,I O r.border]
def SL:Shape RL:=⟨7,lCells,fun _=>rfl,by decide,fun a u hu=>by
 simp only[lCells,List.mem_cons,List.not_mem_nil,or_false]at hu
 rcases hu with rfl|rfl|rfl|rfl|rfl|rfl|rfl<;>rfl⟩
structure RF where
 farm:Int
 day:Int
 lp:Option Addr
 ln:Nat
 lc:Nat
def fCells (r:RF):List Value := [I O r.farm,I O r.day,.slice r.lp r.ln r.lc]
def SF:Shape RF:=⟨3,fCells,fun _=>rfl,by decide,fun a u hu=>by
 simp only[fCells,List.mem_cons,List.not_mem_nil,or_false]at hu
 rcases hu with rfl|rfl|rfl<;>rfl⟩
def aCells (a:Awd):List Value := [I O a.farm,I O a.scheme,I O a.decl,I O a.det,I O a.paid,I O a.rated,I O a.timely,I O a.capped,I O a.due]
def SA:Shape Awd:=⟨9,aCells,fun _=>rfl,by decide,fun a u hu=>by
 simp only[aCells,List.mem_cons,List.not_mem_nil,or_false]at hu
 rcases hu with rfl|rfl|rfl|rfl|rfl|rfl|rfl|rfl|rfl<;>rfl⟩
def rCells (a:Rsn):List Value := [I O a.line,I O a.scheme,I O a.kind]
def SRn:Shape Rsn:=⟨3,rCells,fun _=>rfl,by decide,fun a u hu=>by
 simp only[rCells,List.mem_cons,List.not_mem_nil,or_false]at hu
 rcases hu with rfl|rfl|rfl<;>rfl⟩
theorem info_line:(Tryz.prog.info? 67).map (fun i=>(i.zero,i.size,i.bytes))=some (some (.agg #[I O 0,I O 0,.slice none 0 0,I O 0,I O 0,I O 0,I O 0]),7,72):=by kernel_rfl
theorem el_line:Elem SL Tryz.prog 67 69 72:=by
 obtain⟨i0,h1,h2,h3,h4⟩:=info_parts info_line;exact⟨⟨i0,_,h1,h2,h3,h4,rfl⟩,Tryz.underlying69⟩
theorem info_farm:(Tryz.prog.info? 71).map (fun i=>(i.zero,i.size,i.bytes))=some (some (.agg #[I O 0,I O 0,.slice none 0 0]),3,40):=by kernel_rfl
theorem el_farm:Elem SF Tryz.prog 71 60 40:=by
 obtain⟨i0,h1,h2,h3,h4⟩:=info_parts info_farm;exact⟨⟨i0,_,h1,h2,h3,h4,rfl⟩,Tryz.underlying60⟩
theorem info_awd:(Tryz.prog.info? 78).map (fun i=>(i.zero,i.size,i.bytes))=some (some (.agg #[I O 0,I O 0,I O 0,I O 0,I O 0,I O 0,I O 0,I O 0,I O 0]),9,72):=by kernel_rfl
theorem el_awd:Elem SA Tryz.prog 78 23 72:=by
 obtain⟨i0,h1,h2,h3,h4⟩:=info_parts info_awd;exact⟨⟨i0,_,h1,h2,h3,h4,rfl⟩,Tryz.underlying23⟩
theorem info_rsn:(Tryz.prog.info? 76).map (fun i=>(i.zero,i.size,i.bytes))=some (some (.agg #[I O 0,I O 0,I O 0]),3,24):=by kernel_rfl
theorem el_rsn:Elem SRn Tryz.prog 76 24 24:=by
 obtain⟨i0,h1,h2,h3,h4⟩:=info_parts info_rsn;exact⟨⟨i0,_,h1,h2,h3,h4,rfl⟩,Tryz.underlying24⟩
/-! ### lines -/
structure LV (Q:Nat→Prop) (w:World) (r:RL) (x:LineF):Prop where
 decl:r.decl=x.decl
 sch:r.sch=x.sch
 due:Ints w r.dp x.due
 dn:r.dn=x.due.length
 dc:r.dn≤r.dc
 dz:r.dp=none→r.dc=0
 dq:∀a,r.dp=some a→x.due = []∨Q a.block
 season:r.season=x.season
 kind:r.kind=x.kind
 area:r.area=x.area
 border:r.border=x.border
theorem Ints.blocks {w w' : World}{p:Option Addr}{l:List Int}(h:Ints w p l)(hs:w.heap.size≤w'.heap.size)(hp:∀a,p=some a→l = []∨w'.heap[a.block]?=w.heap[a.block]?):Ints w' p l:=by
 refine⟨h.1,?_⟩
 rcases h.2 with e|⟨b,off,e,hl,hc⟩
 ·exact .inl e
 rcases hp _ e with e0|hp
 ·exact .inl e0
 ·exact .inr ⟨b,off,e,nll hl hs,fun j hj=>(World.cell?_of_block (w:=w) (a:=⟨b,off+j,none⟩) hp).trans (hc j hj)⟩
theorem Ints.lt {w:World}{p:Option Addr}{l:List Int}(h:Ints w p l)(h0:l ≠ []){a:Addr}(e:p=some a):a.block<w.heap.size:=by
 rcases h.2 with e0|⟨b,off,e1,hl,_⟩
 ·exact absurd e0 h0
 ·rw[e]at e1;cases e1;exact hl
theorem LV.change {Q Q' : Nat→Prop}{w w' : World}{r:RL}{x:LineF}(h:LV Q w r x)(hs:w.heap.size≤w'.heap.size)(hb:∀b,Q b→b<w.heap.size→w'.heap[b]?=w.heap[b]?∧Q' b):LV Q' w' r x:=by
 have key:∀a,r.dp=some a→x.due = []∨(w'.heap[a.block]?=w.heap[a.block]?∧Q' a.block):=fun a e=>by
  rcases h.dq a e with h1|h1
  ·exact .inl h1
  ·by_cases h0:x.due = []
   ·exact .inl h0
   ·exact .inr (hb _ h1 (h.due.lt h0 e))
 exact⟨h.decl,h.sch,h.due.blocks hs fun a e=>(key a e).imp id And.left,h.dn,h.dc,h.dz,fun a e=>(key a e).imp id And.right,h.season,h.kind,h.area,h.border⟩
theorem LV.below {Q:Nat→Prop}{w w' : World}{r:RL}{x:LineF}(h:LV Q w r x)(hb:Below w.heap.size w w'):LV Q w' r x:=h.change hb.size fun b q hl=>⟨hb.block b hl,q⟩
structure LsAt (Q:Nat→Prop) (w:World) (p:Option Addr) (K:List LineF):Prop where
 ex:∃R:List RL,R.length=K.length∧Recs SL w p R∧∀k (h:k<R.length) (h' : k<K.length),LV Q w R[k] K[k]
 q:∀a,p=some a→K = []∨Q a.block
theorem LsAt.change {Q Q' : Nat→Prop}{w w' : World}{p:Option Addr}{K:List LineF}(h:LsAt Q w p K)(hs:w.heap.size≤w'.heap.size)(hb:∀b,Q b→b<w.heap.size→w'.heap[b]?=w.heap[b]?∧Q' b):LsAt Q' w' p K:=by
 obtain⟨⟨R,h1,h2,h3⟩,h4⟩:=h;have hR:K = []↔R = []:=by rw[← List.length_eq_zero_iff,← List.length_eq_zero_iff,h1]
 have key:∀a,p=some a→K = []∨(w'.heap[a.block]?=w.heap[a.block]?∧Q' a.block):=fun a e=>by
  rcases h4 a e with h|h
  ·exact .inl h
  ·by_cases h0:K = []
   ·exact .inl h0
   ·exact .inr (hb _ h (h2.lt (fun e=>h0 (hR.2 e)) e))
 exact⟨⟨R,h1,h2.blocks hs fun a e=>(key a e).imp hR.1 And.left,fun k a b=>(h3 k a b).change hs hb⟩,fun a e=>(key a e).imp id And.right⟩
theorem LsAt.below {Q:Nat→Prop}{w w' : World}{p:Option Addr}{K:List LineF}(h:LsAt Q w p K)(hb:Below w.heap.size w w'):LsAt Q w' p K:=h.change hb.size fun b q hl=>⟨hb.block b hl,q⟩
theorem LsAt.len {Q:Nat→Prop}{w:World}{p:Option Addr}{K:List LineF}(h:LsAt Q w p K):K.length≤9223372036854775807:=by
 obtain⟨⟨R,h1,h2, -⟩, -⟩:=h;rw[← h1];exact h2.len
structure LCells (w:World) (b o:Nat) (r:RL):Prop where
 c0:w.cell? ⟨b,o,none⟩=some (I O r.decl)
 c1:w.cell? ⟨b,o+1,none⟩=some (I O r.sch)
 c2:w.cell? ⟨b,o+2,none⟩=some (.slice r.dp r.dn r.dc)
 c3:w.cell? ⟨b,o+3,none⟩=some (I O r.season)
 c4:w.cell? ⟨b,o+4,none⟩=some (I O r.kind)
 c5:w.cell? ⟨b,o+5,none⟩=some (I O r.area)
 c6:w.cell? ⟨b,o+6,none⟩=some (I O r.border)
theorem LCells.blk {w w' : World}{b o:Nat}{r:RL}(h:LCells w b o r)(e:w'.heap[b]?=w.heap[b]?):LCells w' b o r:=by
 have c:∀i,w'.cell? ⟨b,i,none⟩=w.cell? ⟨b,i,none⟩:=fun i=>World.cell?_of_block (w:=w) (a:=⟨b,i,none⟩) e
 exact⟨(c _).trans h.c0,(c _).trans h.c1,(c _).trans h.c2,(c _).trans h.c3,(c _).trans h.c4,(c _).trans h.c5,(c _).trans h.c6⟩
theorem LCells.below {w w' : World}{b o B:Nat}{r:RL}(h:LCells w b o r)(hb:Below B w w')(hB:b<B):LCells w' b o r:=h.blk (hb.block b hB)
theorem LsAt.at {Q:Nat→Prop}{w:World}{p:Option Addr}{K:List LineF}(h:LsAt Q w p K){k:Nat}(hk:k<K.length) :
  ∃b off r,p=some ⟨b,off,none⟩∧b<w.heap.size∧LCells w b (off+k*7) r∧LV Q w r K[k]:=by
 obtain⟨⟨R,h1,h2,h3⟩, -⟩:=h;have hk' : k<R.length:=by omega
 obtain⟨b,off,e,hl,hc⟩:=h2.at hk'; exact⟨b,off,R[k],e,hl,⟨hc 0 _ rfl,hc 1 _ rfl,hc 2 _ rfl,hc 3 _ rfl,hc 4 _ rfl,hc 5 _ rfl,hc 6 _ rfl⟩,h3 k hk' hk⟩
/-! ### farms -/
structure FV (Q:Nat→Prop) (w:World) (r:RF) (f:FarmF):Prop where
 farm:r.farm=f.farm
 day:r.day=f.day
 lines:LsAt Q w r.lp f.lines
 ln:r.ln=f.lines.length
 lc:r.ln≤r.lc
 lz:r.lp=none→r.lc=0
theorem FV.change {Q Q' : Nat→Prop}{w w' : World}{r:RF}{f:FarmF}(h:FV Q w r f)(hs:w.heap.size≤w'.heap.size)(hb:∀b,Q b→b<w.heap.size→w'.heap[b]?=w.heap[b]?∧Q' b):FV Q' w' r f :=
 ⟨h.farm,h.day,h.lines.change hs hb,h.ln,h.lc,h.lz⟩
theorem FV.below {Q:Nat→Prop}{w w' : World}{r:RF}{f:FarmF}(h:FV Q w r f)(hb:Below w.heap.size w w'):FV Q w' r f:=h.change hb.size fun b q hl=>⟨hb.block b hl,q⟩
structure FsAt (Q:Nat→Prop) (w:World) (p:Option Addr) (F:List FarmF):Prop where
 ex:∃R:List RF,R.length=F.length∧Recs SF w p R∧∀k (h:k<R.length) (h' : k<F.length),FV Q w R[k] F[k]
 q:∀a,p=some a→F = []∨Q a.block
theorem FsAt.nil (Q:Nat→Prop)(w:World)(p:Option Addr):FsAt Q w p []:=⟨⟨[],rfl,Recs.nil _ _,fun k h=>by simp at h⟩,fun _ _ => .inl rfl⟩
theorem FsAt.change {Q Q' : Nat→Prop}{w w' : World}{p:Option Addr}{F:List FarmF}(h:FsAt Q w p F)(hs:w.heap.size≤w'.heap.size)(hb:∀b,Q b→b<w.heap.size→w'.heap[b]?=w.heap[b]?∧Q' b):FsAt Q' w' p F:=by
 obtain⟨⟨R,h1,h2,h3⟩,h4⟩:=h;have hR:F = []↔R = []:=by rw[← List.length_eq_zero_iff,← List.length_eq_zero_iff,h1]
 have key:∀a,p=some a→F = []∨(w'.heap[a.block]?=w.heap[a.block]?∧Q' a.block):=fun a e=>by
  rcases h4 a e with h|h
  ·exact .inl h
  ·by_cases h0:F = []
   ·exact .inl h0
   ·exact .inr (hb _ h (h2.lt (fun e=>h0 (hR.2 e)) e))
 exact⟨⟨R,h1,h2.blocks hs fun a e=>(key a e).imp hR.1 And.left,fun k a b=>(h3 k a b).change hs hb⟩,fun a e=>(key a e).imp id And.right⟩
theorem FsAt.below {Q:Nat→Prop}{w w' : World}{p:Option Addr}{F:List FarmF}(h:FsAt Q w p F)(hb:Below w.heap.size w w'):FsAt Q w' p F:=h.change hb.size fun b q hl=>⟨hb.block b hl,q⟩
theorem FsAt.len {Q:Nat→Prop}{w:World}{p:Option Addr}{F:List FarmF}(h:FsAt Q w p F):F.length≤9223372036854775807:=by
 obtain⟨⟨R,h1,h2, -⟩, -⟩:=h;rw[← h1];exact h2.len
structure FCells (w:World) (b o:Nat) (r:RF):Prop where
 c0:w.cell? ⟨b,o,none⟩=some (I O r.farm)
 c1:w.cell? ⟨b,o+1,none⟩=some (I O r.day)
 c2:w.cell? ⟨b,o+2,none⟩=some (.slice r.lp r.ln r.lc)
theorem FCells.blk {w w' : World}{b o:Nat}{r:RF}(h:FCells w b o r)(e:w'.heap[b]?=w.heap[b]?):FCells w' b o r:=by
 have c:∀i,w'.cell? ⟨b,i,none⟩=w.cell? ⟨b,i,none⟩:=fun i=>World.cell?_of_block (w:=w) (a:=⟨b,i,none⟩) e
 exact⟨(c _).trans h.c0,(c _).trans h.c1,(c _).trans h.c2⟩
theorem FCells.below {w w' : World}{b o B:Nat}{r:RF}(h:FCells w b o r)(hb:Below B w w')(hB:b<B):FCells w' b o r:=h.blk (hb.block b hB)
theorem FsAt.at {Q:Nat→Prop}{w:World}{p:Option Addr}{F:List FarmF}(h:FsAt Q w p F){k:Nat}(hk:k<F.length) :
  ∃b off r,p=some ⟨b,off,none⟩∧b<w.heap.size∧FCells w b (off+k*3) r∧FV Q w r F[k]:=by
 obtain⟨⟨R,h1,h2,h3⟩, -⟩:=h;have hk' : k<R.length:=by omega
 obtain⟨b,off,e,hl,hc⟩:=h2.at hk'; exact⟨b,off,R[k],e,hl,⟨hc 0 _ rfl,hc 1 _ rfl,hc 2 _ rfl⟩,h3 k hk' hk⟩
/-! ### the law of a year, as a value of ten cells -/
structure RY where
 sp:Option Addr
 sn:Nat
 sc:Nat
 tp:Option Addr
 tn:Nat
 tc:Nat
 due:Int
 last:Int
 mille:Int
 gp:Option Addr
 gn:Nat
 gc:Nat
 cap:Int
 env:Int
 unit:Int
 width:Int
def yCells (r:RY):List Value := [.slice r.sp r.sn r.sc,.slice r.tp r.tn r.tc,I O r.due,I O r.last,I O r.mille,.slice r.gp r.gn r.gc,I O r.cap,I O r.env,I O r.unit,I O r.width]
structure YV (Q:Nat→Prop) (w:World) (d:Nat) (r:RY) (l:YLaw):Prop where
 sch:SsAt Q w d r.sp l.sch
 sn:r.sn=l.sch.length
 sc:r.sn≤r.sc
 steps:Pairs w r.tp l.steps
 tn:r.tn=l.steps.length
 tq:∀a,r.tp=some a→l.steps = []∨Q a.block
 due:r.due=l.late.due
 last:r.last=l.late.last
 mille:r.mille=l.late.mille
 deg:Pairs w r.gp l.deg
 gn:r.gn=l.deg.length
 gq:∀a,r.gp=some a→l.deg = []∨Q a.block
 cap:r.cap=l.cap
 env:r.env=l.env
 unit:r.unit=l.unit
 width:r.width=l.width
 /-- what any program's reading of names and terms asks -/
 small:∀s∈l.sch,s.nm.size≤9223372036854775807
 terms:∀s∈l.sch,Te.count s.cond≤1099511627776
theorem Pairs.blocks {w w' : World}{p:Option Addr}{D:List (Int × Int)}(h:Pairs w p D)(hs:w.heap.size≤w'.heap.size)(hp:∀a,p=some a→D = []∨w'.heap[a.block]?=w.heap[a.block]?):Pairs w' p D:=by
 refine⟨h.1,?_⟩
 rcases h.2 with e|⟨b,off,e,hl,hc⟩
 ·exact .inl e
 rcases hp _ e with e0|hp
 ·exact .inl e0
 ·refine .inr ⟨b,off,e,nll hl hs,fun j hj=>?_⟩
  have c:∀i,w'.cell? ⟨b,i,none⟩=w.cell? ⟨b,i,none⟩:=fun i=>World.cell?_of_block (w:=w) (a:=⟨b,i,none⟩) hp
  simp only[c];exact hc j hj
theorem Pairs.lt {w:World}{p:Option Addr}{D:List (Int × Int)}(h:Pairs w p D)(h0:D ≠ []){a:Addr}(e:p=some a):a.block<w.heap.size:=by
 rcases h.2 with e0|⟨b,off,e1,hl,_⟩
 ·exact absurd e0 h0
 ·rw[e]at e1;cases e1;exact hl
theorem YV.change {Q Q' : Nat→Prop}{w w' : World}{d:Nat}{r:RY}{l:YLaw}(h:YV Q w d r l)(hs:w.heap.size≤w'.heap.size)(hb:∀b,Q b→b<w.heap.size→w'.heap[b]?=w.heap[b]?∧Q' b):YV Q' w' d r l:=by
 have key:∀{p:Option Addr} {D:List (Int × Int)},Pairs w p D→(∀a,p=some a→D = []∨Q a.block)→∀a,p=some a→D = []∨(w'.heap[a.block]?=w.heap[a.block]?∧Q' a.block):=fun hp hq a e=>by
  rcases hq a e with h1|h1
  ·exact .inl h1
  ·rename_i D
   by_cases h0:D = []
   ·exact .inl h0
   ·exact .inr (hb _ h1 (hp.lt h0 e))
 have k1:=key h.steps h.tq;have k2:=key h.deg h.gq;exact⟨h.sch.change hs hb,h.sn,h.sc,h.steps.blocks hs fun a e=>(k1 a e).imp id And.left,h.tn,fun a e=>(k1 a e).imp id And.right,h.due,h.last,h.mille,h.deg.blocks hs fun a e=>(k2 a e).imp id And.left,h.gn,fun a e=>(k2 a e).imp id And.right,h.cap,h.env,h.unit,h.width,h.small,h.terms⟩
theorem YV.below {Q:Nat→Prop}{w w' : World}{d:Nat}{r:RY}{l:YLaw}(h:YV Q w d r l)(hb:Below w.heap.size w w'):YV Q w' d r l:=h.change hb.size fun b q hl=>⟨hb.block b hl,q⟩
structure YCells (w:World) (b o:Nat) (r:RY):Prop where
 c0:w.cell? ⟨b,o,none⟩=some (.slice r.sp r.sn r.sc)
 c1:w.cell? ⟨b,o+1,none⟩=some (.slice r.tp r.tn r.tc)
 c2:w.cell? ⟨b,o+2,none⟩=some (I O r.due)
 c3:w.cell? ⟨b,o+3,none⟩=some (I O r.last)
 c4:w.cell? ⟨b,o+4,none⟩=some (I O r.mille)
 c5:w.cell? ⟨b,o+5,none⟩=some (.slice r.gp r.gn r.gc)
 c6:w.cell? ⟨b,o+6,none⟩=some (I O r.cap)
 c7:w.cell? ⟨b,o+7,none⟩=some (I O r.env)
 c8:w.cell? ⟨b,o+8,none⟩=some (I O r.unit)
 c9:w.cell? ⟨b,o+9,none⟩=some (I O r.width)
theorem YCells.blk {w w' : World}{b o:Nat}{r:RY}(h:YCells w b o r)(e:w'.heap[b]?=w.heap[b]?):YCells w' b o r:=by
 have c:∀i,w'.cell? ⟨b,i,none⟩=w.cell? ⟨b,i,none⟩:=fun i=>World.cell?_of_block (w:=w) (a:=⟨b,i,none⟩) e
 exact⟨(c _).trans h.c0,(c _).trans h.c1,(c _).trans h.c2,(c _).trans h.c3,(c _).trans h.c4,(c _).trans h.c5,(c _).trans h.c6,(c _).trans h.c7,(c _).trans h.c8,(c _).trans h.c9⟩
theorem YCells.below {w w' : World}{b o B:Nat}{r:RY}(h:YCells w b o r)(hb:Below B w w')(hB:b<B):YCells w' b o r:=h.blk (hb.block b hB)
theorem YCells.box (w:World)(r:RY)(T:TypeId):YCells (w.alloc (.cells (yCells r).toArray T)) w.heap.size 0 r :=
 ⟨cwn _ _ _ 0,cwn _ _ _ 1,cwn _ _ _ 2,cwn _ _ _ 3,cwn _ _ _ 4,cwn _ _ _ 5,cwn _ _ _ 6,cwn _ _ _ 7,cwn _ _ _ 8,cwn _ _ _ 9⟩
/-! ### rows of awards and reasons that are only read -/
structure ACells (w:World) (b o:Nat) (a:Awd):Prop where
 c0:w.cell? ⟨b,o,none⟩=some (I O a.farm)
 c1:w.cell? ⟨b,o+1,none⟩=some (I O a.scheme)
 c2:w.cell? ⟨b,o+2,none⟩=some (I O a.decl)
 c3:w.cell? ⟨b,o+3,none⟩=some (I O a.det)
 c4:w.cell? ⟨b,o+4,none⟩=some (I O a.paid)
 c5:w.cell? ⟨b,o+5,none⟩=some (I O a.rated)
 c6:w.cell? ⟨b,o+6,none⟩=some (I O a.timely)
 c7:w.cell? ⟨b,o+7,none⟩=some (I O a.capped)
 c8:w.cell? ⟨b,o+8,none⟩=some (I O a.due)
theorem SA_at {w:World}{p:Option Addr}{L:List Awd}(h:Recs SA w p L){k:Nat}(hk:k<L.length) :
  ∃b off,p=some ⟨b,off,none⟩∧b<w.heap.size∧ACells w b (off+k*9) L[k]:=by
 obtain⟨b,off,e,hl,hc⟩:=h.at hk;exact⟨b,off,e,hl,⟨hc 0 _ rfl,hc 1 _ rfl,hc 2 _ rfl,hc 3 _ rfl,hc 4 _ rfl,hc 5 _ rfl,hc 6 _ rfl,hc 7 _ rfl,hc 8 _ rfl⟩⟩
theorem SRn_at {w:World}{p:Option Addr}{L:List Rsn}(h:Recs SRn w p L){k:Nat}(hk:k<L.length) :
  ∃b off,p=some ⟨b,off,none⟩∧b<w.heap.size∧w.cell? ⟨b,off+k*3,none⟩=some (I O L[k].line)∧w.cell? ⟨b,off+k*3+1,none⟩=some (I O L[k].scheme)∧w.cell? ⟨b,off+k*3+2,none⟩=some (I O L[k].kind):=by
 obtain⟨b,off,e,hl,hc⟩:=h.at hk;exact⟨b,off,e,hl,hc 0 _ rfl,hc 1 _ rfl,hc 2 _ rfl⟩
theorem g_pow:Tryz.prog.globalNamed "internal/strconv.uint64pow10" = some 1:=by kernel_rfl
theorem g_syn:Tryz.prog.globalNamed "strconv.ErrSyntax" = some 8:=by kernel_rfl
theorem g_rng:Tryz.prog.globalNamed "strconv.ErrRange" = some 9:=by kernel_rfl
structure Env (w:World):Prop where
 pow:Lib.TabIs Tryz.prog w "internal/strconv.uint64pow10" .u64 Lib.pow10Tab
 ml:∃m,w.cell? ⟨0,0,none⟩=some (I O m)
 syn:∃tp p,w.var? Tryz.prog "strconv.ErrSyntax" = some #[.iface tp p]
 rng:∃tp p,w.var? Tryz.prog "strconv.ErrRange" = some #[.iface tp p]
theorem var_lt {w:World}{n:String}{g:Nat}{cs:Array Value}(hg:Tryz.prog.globalNamed n=some g)(h:w.var? Tryz.prog n=some cs):g<w.heap.size:=by
 simp only[World.var?,hg,Option.bind_some]at h
 cases e:w.heap[g]? with
 | none=>rw[e]at h;cases h
 | some o=>exact(Array.getElem?_eq_some_iff.1 e).1
theorem var_same {w w' : World}{n:String}{g:Nat}{cs:Array Value}(hg:Tryz.prog.globalNamed n=some g)(h:w.var? Tryz.prog n=some cs)(e:w'.heap[g]?=w.heap[g]?):w'.var? Tryz.prog n=some cs:=by
 simp only[World.var?,hg,Option.bind_some]at h ⊢;rw[e];exact h
def gtop:Nat:=max 0 (max 1 (max 8 9))
theorem Env.blocks {w w' : World}(h:Env w)(e:∀g,g≤gtop→g<w.heap.size→w'.heap[g]?=w.heap[g]?):Env w' :=by
 obtain⟨m,hm⟩:=h.ml;obtain⟨t1,p1,h1⟩:=h.syn;obtain⟨t2,p2,h2⟩:=h.rng;have h0:=h.pow
 exact⟨var_same g_pow h0 (e _ (by decide) (var_lt g_pow h0)),⟨m,by rw[World.cell?_of_block (w:=w) (e _ (by decide) (World.block_lt_of_cell? w _ hm))];exact hm⟩,
  ⟨t1,p1,var_same g_syn h1 (e _ (by decide) (var_lt g_syn h1))⟩,⟨t2,p2,var_same g_rng h2 (e _ (by decide) (var_lt g_rng h2))⟩⟩
theorem Env.below {w w' : World}(h:Env w)(hb:Below w.heap.size w w'):Env w' := h.blocks fun g _ hl=>hb.block g hl
theorem Env.drew {w:World}(h:Env w):Env w.drew:=h.blocks fun _ _ _=>rfl
theorem headB_false {l:List UInt8}{k:Nat}(h:Wo.headB (l.take k)=false):Wo.nameB l=false:=by
 have:Wo.headB l=false:=by
  cases e:Wo.headB l with
  | false=>rfl
  | true =>
    rw[← List.take_append_drop k l]at e;rw[Wo.headB_prefix e]at h
    cases h
 unfold Wo.nameB;rw[this];rfl
theorem ret_b {a b:Bool}(h:a=b):Ending.returned (.bool a) = .returned (.bool b):=by rw[h]
theorem byte_kinds (c:UInt8):((c.toNat:Int)<48∧Wo.letB c=false∧Wo.digB c=false)∨(48≤(c.toNat:Int)∧(c.toNat:Int)≤57∧Wo.letB c=false∧Wo.digB c=true)∨(58≤(c.toNat:Int)∧(c.toNat:Int)<97∧Wo.letB c=false∧Wo.digB c=false)∨(97≤(c.toNat:Int)∧(c.toNat:Int)≤122∧Wo.letB c=true∧Wo.digB c=false)∨(122<(c.toNat:Int)∧Wo.letB c=false∧Wo.digB c=false):=by
 simp only[Wo.letB,Wo.digB,Bool.and_eq_true,Bool.and_eq_false_iff,decide_eq_true_eq,decide_eq_false_iff_not];omega
def NameGive (l:List UInt8) (w:World) (e:Ending) (w' : World):Prop:=e = .returned (.bool (Wo.nameB l))∧w=w'
open Te
def IntG (v:Int) (w:World) (e:Ending) (w' : World):Prop:=e = .returned (I O v)∧Below w.heap.size w w'
theorem countL_append (A B:List Tm):countL (A++B)=countL A+countL B:=by
 induction A with
 | nil=>simp[countL]
 | cons a r ih=>rw[List.cons_append,countL,countL,ih];omega
theorem countL_succ (K:List Tm)(j:Nat)(h:j<K.length):countL (K.take (j+1))=countL (K.take j)+count K[j]:=by
 rw[tsg h,countL_append,countL,countL];omega
theorem countL_take (K:List Tm)(j:Nat):countL (K.take j)≤countL K:=by
 have:=countL_append (K.take j) (K.drop j);rw[List.take_append_drop]at this;omega
theorem self_out {o n m:Int}{k:Nat}(h:o<1∨11<o):(selfB o n m k&&decide (k≤40))=false:=by
 unfold selfB;rw[if_neg (by omega),if_neg (by omega),if_neg (by omega),if_neg (by omega),if_neg (by omega),if_neg (by omega),if_neg (by omega),if_neg (by omega),if_neg (by omega),if_neg (by omega)]
 rfl
def BoolG (b:Bool) (w:World) (e:Ending) (w' : World):Prop:=e = .returned (.bool b)∧Below w.heap.size w w'
theorem brB_bad {l:List Brk}{k:Nat}(hk:k<l.length)(h:brAt l k=false):brB l=false:=by
 unfold brB
 cases e:brAll l l.length with
 | false=>rfl
 | true =>
   have:=brAll_mono (show k+1≤l.length by omega) e;rw[brAll_succ,h,Bool.and_false]at this
   cases this
theorem brAt_parts {l:List Brk}{k:Nat}(hk:k<l.length){up rate prev:Int}(e:l[k]=⟨up,rate⟩)(hp:upB l k=prev) :
  (up≤prev∨268435456<up∨rate<0∨1048576<rate→brAt l k=false)∧(prev<up→up≤268435456→0≤rate→rate≤1048576→brAt l k=true):=by
 rw[brAt_some hk,e,hp]
 constructor
 ·intro h
  rw[Bool.eq_false_iff];intro h2;simp only[Bool.and_eq_true,decide_eq_true_eq]at h2;omega
 ·intro h1 h2 h3 h4
  simp only[Bool.and_eq_true,decide_eq_true_eq];exact⟨h1,h2,h3,h4⟩
theorem refbrackets_any (p:Option Addr)(l:List Brk)(n c:Nat)(w:World)(hn:n=l.length)(h:Recs SBk w p l):Calls Tryz.prog 145 #[.slice p n c] w (BoolG (brB l) w):=by
 subst hn;have hl:=h.len
 by_cases g1:(l.length:Int)<1
 ·have HV:=mh (show brB l=false by
   unfold brB;rw[dqf (show ¬1≤l.length by omega)];simp)
  clear h
  go_enter Tryz.func145,Tryz.ntmps145
  go_wp2
  go_ret
  exact⟨ret_bool HV.out.symm,brf _ _⟩
 by_cases g2:(6:Int)<(l.length:Int)
 ·have HV:=mh (show brB l=false by
   unfold brB;rw[dqf (show ¬l.length≤6 by omega)];simp)
  clear h
  go_enter Tryz.func145,Tryz.ntmps145
  go_wp2
  go_ret
  exact⟨ret_bool HV.out.symm,brf _ _⟩
 have H:=mh h
 have EV:=mh (show brAll l l.length=true→brB l=true from fun ha=>by
  unfold brB;rw[ha,dqt (show 1≤l.length by omega),dqt (show l.length≤6 by omega)];rfl)
 clear h
 go_enter Tryz.func145,Tryz.ntmps145
 go_wp2
 go_loopw [3,16] (fun u i wr=>∃k:Nat,k≤l.length∧i=I O k∧u=I O (upB l k)∧brAll l k=true∧Below w.heap.size w wr) (fun _ i _=>l.length - (intOf i).toNat)
 case atStart=>exact⟨0,Nat.zero_le _,rfl,rfl,rfl,brf _ _⟩
 case round =>
  obtain⟨wo,rfl⟩:∃wo:World,wo=wr:=⟨_,rfl⟩;obtain⟨k,hk,rfl,rfl,ha,hb⟩:=hrel;have HA:=mh ha;have HB:=mh hb;have hk0:(0:Int)≤(k:Int):=inn _
  by_cases hlt:k<l.length
  ·have hk1:(k:Int)<(l.length:Int):=by omega
   obtain⟨b,off,x,rfl,hbl,x0,x1,hx⟩:=SBk_at (H.out.below hb) hlt;obtain⟨up,rate⟩:=x;simp only at x0 x1;obtain⟨prev,ep⟩:∃pv,upB l k=pv:=⟨_,rfl⟩;rw[ep];obtain⟨bad,good⟩:=brAt_parts hlt hx.out ep;have BAD:=mh (fun h=>brB_bad hlt (bad h));have GOOD:=mh (fun h1 h2 h3 h4=>(show brAll l (k+1)=true by rw[brAll_succ,HA.out,good h1 h2 h3 h4];rfl));have HN1:=mh (show upB l (k+1)=up by rw[upB_succ hlt,hx.out]);have HB1:=mh (balloc mle HB.out (.cells #[I O up,I O rate] 143));clear ha hb hx ep bad good
   by_cases g1:up≤prev
   ·have HV:=mh (BAD.out (.inl g1))
    go_wp2
    go_ret
    exact⟨ret_bool HV.out.symm,HB1.out⟩
   by_cases g2:268435456<up
   ·have HV:=mh (BAD.out (.inr (.inl g2)))
    go_wp2
    go_ret
    exact⟨ret_bool HV.out.symm,HB1.out⟩
   by_cases g3:rate<0
   ·have HV:=mh (BAD.out (.inr (.inr (.inl g3))))
    go_wp2
    go_ret
    exact⟨ret_bool HV.out.symm,HB1.out⟩
   by_cases g4:1048576<rate
   ·have HV:=mh (BAD.out (.inr (.inr (.inr g4))))
    go_wp2
    go_ret
    exact⟨ret_bool HV.out.symm,HB1.out⟩
   ·have HN:=mh (GOOD.out (by omega) (by omega) (by omega) (by omega))
    go_wp2
    go_roundw
    case rel=>exact⟨k+1,by omega,by go_num,by rw[HN1.out],HN.out,HB1.out⟩
    case measure=>simp[intOf];omega
  ·obtain rfl:k=l.length:=by omega
   have HV:=mh (EV.out ha);clear hb ha
   go_wp2
   go_ret
   exact⟨ret_bool HV.out.symm,HB.out⟩
theorem and_bit (v:Int):bits BinOp.and IntKind.i64 v 1=v % 2:=by
 have h1:bits BinOp.and IntKind.i64 v 1=IntKind.i64.wrap (((BitVec.ofInt 64 v &&& BitVec.ofInt 64 1:BitVec 64).toNat:Nat):Int):=rfl;rw[h1,BitVec.toNat_and,BitVec.toNat_ofInt,BitVec.toNat_ofInt,show((1:Int) % ((2 ^ 64:Nat):Int)).toNat=1 from by decide,Nat.and_one_is_mod,IntKind.wrap_i64,show(((2 ^ 64:Nat):Int))=18446744073709551616 from by decide];omega
theorem bit_one (x n:Int):(bits BinOp.and IntKind.i64 (x / 2 ^ n.toNat) 1==1)=bitB x n:=by
 rw[and_bit];unfold bitB;rw[Bool.eq_iff_iff,beq_iff_eq,decide_eq_true_eq]
theorem bit_zero (x n:Int):(bits BinOp.and IntKind.i64 (x / 2 ^ n.toNat) 1==0) = !bitB x n:=by
 rw[and_bit];unfold bitB;rw[Bool.eq_iff_iff,beq_iff_eq,Bool.not_eq_true', decide_eq_false_iff_not];omega
def oneV (num least ex:Int) (nb:Bool) (ck:Int) (bb bit:Bool):Int :=
 if num<0∨15<num∨least<0∨268435456<least then 2 else if nb=false then 5 else if ck≠0 then ck else if bb=false∨ex<0∨65536≤ex∨bit=true then 3 else 0
theorem one_cases {num least ex:Int}{nb:Bool}{ck:Int}{bb bit:Bool}{v:Int}(h:oneV num least ex nb ck bb bit=v) :
  (num<0∨15<num∨least<0∨268435456<least→v=2)∧(¬(num<0∨15<num∨least<0∨268435456<least)→nb=false→v=5) ∧
  (¬(num<0∨15<num∨least<0∨268435456<least)→nb=true→ck≠0→v=ck) ∧
  (¬(num<0∨15<num∨least<0∨268435456<least)→nb=true→ck=0→(bb=false∨ex<0∨65536≤ex∨bit=true)→v=3) ∧
  (¬(num<0∨15<num∨least<0∨268435456<least)→nb=true→ck=0→¬(bb=false∨ex<0∨65536≤ex∨bit=true)→v=0):=by
 subst h;unfold oneV;refine⟨fun h=>by rw[if_pos h],fun h h2=>by rw[if_neg h,if_pos h2],fun h h2 h3=>by rw[if_neg h,if_neg (by rw[h2];decide),if_pos h3],fun h h2 h3 h4=>?_,fun h h2 h3 h4=>?_⟩
 ·rw[if_neg h,if_neg (by rw[h2];decide),if_neg (by omega),if_pos h4]
 ·rw[if_neg h,if_neg (by rw[h2];decide),if_neg (by omega),if_neg h4]
theorem As.bit_one (x n:Int):(bits BinOp.and IntKind.i64 (x / 2 ^ n.toNat) 1==1)=bitB x n:=by
 rw[and_bit];unfold bitB
 by_cases h:x / 2 ^ n.toNat % 2=1
 ·simp[h]
 ·simp[h]
theorem refnames34_any (r:RL)(s:RSx)(w:World)(h0:0≤s.num)(h15:s.num≤15) :
  Calls Tryz.prog 84 #[.agg (lCells r).toArray,.agg (sCells s).toArray] w fun e w' => e = .returned (.bool (bitB r.sch s.num))∧Below w.heap.size w w' :=by
 obtain⟨d,sch,dp,dn,dc,season,k,a,b⟩:=r;obtain⟨num,nm,⟨o,tn,tm,tp,tl,tc⟩,bp,bn,bc,least,ex,needs⟩:=s;simp only[lCells,sCells]at h0 h15 ⊢;have HB:=mh (balloc mle (balloc mle (brf w.heap.size w) (.cells #[I O d,I O sch,.slice dp dn dc,I O season,I O k,I O a,I O b] 67)) (.cells #[I O num,.string nm,I O o,I O tn,I O tm,.slice tp tl tc,.slice bp bn bc,I O least,I O ex,.bool needs] 112))
 cases e:bitB sch num
 ·have E:=As.bit_one sch num
  rw[e]at E;clear e
  go_enter Tryz.func84,Tryz.ntmps84
  go_wp2
  go_ret
  exact⟨rfl,HB.out⟩
 ·have E:=As.bit_one sch num
  rw[e]at E;clear e
  go_enter Tryz.func84,Tryz.ntmps84
  go_wp2
  go_ret
  exact⟨rfl,HB.out⟩
def fcells (f:As.Fct):List Value := [I O f.decl,I O f.due,I O f.season,I O f.kind,I O f.area,I O f.border]
def As.FactG (f:As.Fct) (w:World) (e:Ending) (w' : World):Prop:=e = .returned (.agg (fcells f).toArray)∧Below w.heap.size w w'
theorem reffact34_any {Q:Nat→Prop}(r:RL)(x:As.LineF)(k:Nat)(w:World)(hv:LV Q w r x)(hk:k<x.due.length) :
  Calls Tryz.prog 86 #[.agg (lCells r).toArray,I O k] w (As.FactG (As.factOf x k) w):=by
 have h1:=hv.decl;have h3:=hv.season;have h4:=hv.kind;have h5:=hv.area;have h6:=hv.border;have hdn:=hv.dn;obtain⟨bd,off,ed,hbl,hc⟩:=hv.due.at hk;clear hv;obtain⟨d,sch,dp,dn,dc,season,kd,a,b⟩:=r;simp only at h1 h3 h4 h5 h6 hdn ed;subst h1 h3 h4 h5 h6 hdn ed;have EF:=mh (show As.factOf x k=⟨x.decl,x.due.getD k 0,x.season,x.kind,x.area,x.border⟩ from rfl);obtain⟨F,eF⟩:∃F,As.factOf x k=F:=⟨_,rfl⟩;rw[eF]at EF ⊢;obtain⟨u,eu⟩:∃u,x.due.getD k 0=u:=⟨_,rfl⟩;rw[eu]at hc EF;obtain⟨n,en⟩:∃n,x.due.length=n:=⟨_,rfl⟩;rw[en]at hk;rw[en];obtain⟨dl,sn,kn,ar,bo,e1,e2,e3,e4,e5⟩:∃dl sn kn ar bo,x.decl=dl∧x.season=sn∧x.kind=kn∧x.area=ar∧x.border=bo:=⟨_,_,_,_,_,rfl,rfl,rfl,rfl,rfl⟩;rw[e1,e2,e3,e4,e5]at EF ⊢;clear eF eu en e1 e2 e3 e4 e5;have hk0:(0:Int)≤(k:Int):=inn _;have hk1:(k:Int)<(n:Int):=by omega
 simp only[lCells]
 go_enter Tryz.func86,Tryz.ntmps86
 go_wp2
 go_region
 go_wp2
 exact bodyPost_ret (v := .agg #[I O dl,I O u,I O sn,I O kn,I O ar,I O bo]) (by simp[results,Tryz.results86,go_sem]) rfl ⟨by rw[EF.out];rfl,(balloc mle (balloc mle (brf w.heap.size w) _) _).drew⟩
theorem As.allV_take {L:List Sch}{k:Nat}(hk:k<L.length):As.allV (L.take (k+1))=bits BinOp.or IntKind.i64 (As.allV (L.take k)) (wrap64 (2 ^ L[k].num.toNat)):=by
 unfold As.allV;rw[tsg hk,List.foldl_append]
 rfl
theorem refBits_any {Q:Nat→Prop}(d:Nat)(p:Option Addr)(L:List Sch)(cap:Nat)(w:World)(h:SsAt Q w d p L)(hn:∀s∈L,0≤s.num∧s.num≤15) :
  Calls Tryz.prog 125 #[.slice p L.length cap] w fun e w' => e = .returned (I O (As.allV L))∧w=w' :=by
 have H:=mh h;have HN:=mh hn;have hlen:=h.len;have EV:=mh (show As.allV L=As.allV (L.take L.length) from by rw[List.take_length]);obtain⟨V,eV⟩:∃V,As.allV L=V:=⟨_,rfl⟩;rw[eV]at EV ⊢;clear h hn eV
 go_enter Tryz.func125,Tryz.ntmps125
 go_wp2
 go_loop [3,4] (fun x i=>∃k:Nat,k≤L.length∧i=I O k∧x=I O (As.allV (L.take k))) (fun _ i=>L.length - (intOf i).toNat)
 case atStart=>exact⟨0,Nat.zero_le _,rfl,rfl⟩
 case round =>
  obtain⟨k,hk,rfl,rfl⟩:=hrel;have hk0:(0:Int)≤(k:Int):=inn _
  by_cases hlt:k<L.length
  ·have hk1:(k:Int)<(L.length:Int):=by omega
   obtain⟨b,off,x,rfl,hbl,hC,hv⟩:=H.out.at hlt;have C0:=hC.c0;have hnum:=hv.num;have hb:=HN.out _ (List.getElem_mem hlt);have ST:=mh (As.allV_take hlt);rw[← hnum]at hb ST;obtain⟨n,en⟩:∃n,x.num=n:=⟨_,rfl⟩;rw[en]at hb ST C0;obtain⟨n0,n1⟩:=hb;obtain⟨A,eA⟩:∃A,As.allV (L.take k)=A:=⟨_,rfl⟩;rw[eA]at ST ⊢;clear hC hv hnum en eA
   go_wp2
   go_round
   case rel=>exact⟨k+1,by omega,by go_num,by rw[ST.out]⟩
   case measure=>simp[intOf];omega
  ·obtain rfl:k=L.length:=by omega
   go_wp2
   go_ret
   exact⟨by rw[EV.out,List.take_length];rfl,rfl⟩
theorem refarea_any (n:Int)(w:World):Calls Tryz.prog 127 #[I O n] w fun e w' => e = .returned (.bool (Re.area n))∧w=w' :=by
 by_cases h:0≤n
 ·by_cases h2:n≤268435456
  ·rw[Re.area_iff.2 ⟨h,h2⟩]
   go_enter Tryz.func127,Tryz.ntmps127
   go_wp2
   go_ret
   exact⟨rfl,rfl⟩
  ·rw[Re.area_not.2 (.inr (by omega))]
   go_enter Tryz.func127,Tryz.ntmps127
   go_wp2
   go_ret
   exact⟨rfl,rfl⟩
 ·rw[Re.area_not.2 (.inl (by omega))]
  go_enter Tryz.func127,Tryz.ntmps127
  go_wp2
  go_ret
  exact⟨rfl,rfl⟩
theorem stOk {D:List (Int × Int)}{k:Nat}{x y lx ly:Int}(h:D.getD k (0,0)=(x,y))(hl:k≠0→D.getD (k - 1) (0,0)=(lx,ly)) :
  Re.okAt D k=true↔¬(x<0∨100000<x∨(k≠0∧x≤lx))∧((y = -1∧k+1=D.length)∨¬(y<0∨10<y∨(k≠0∧y<ly))):=by
 rw[Re.okAt_iff];unfold Re.ab Re.ti;rw[h]
 by_cases hk:k=0
 ·simp only;omega
 ·rw[hl hk]
  simp only;omega
theorem rchk_bad {D:List (Int × Int)}{k:Nat}(hk:k<D.length)(h:¬Re.okAt D k=true):Re.chk D=66:=Re.chk_not fun hR=>h (hR.ok k hk)
theorem refmoney_any (n:Int)(w:World):Calls Tryz.prog 62 #[I O n] w fun e w' => e = .returned (.bool (En.money n))∧w=w' :=by
 by_cases h:0≤n
 ·by_cases h2:n≤68719476736
  ·rw[En.money_iff.2 ⟨h,h2⟩]
   go_enter Tryz.func62,Tryz.ntmps62
   go_wp2
   go_ret
   exact⟨rfl,rfl⟩
  ·rw[En.money_not.2 (.inr (by omega))]
   go_enter Tryz.func62,Tryz.ntmps62
   go_wp2
   go_ret
   exact⟨rfl,rfl⟩
 ·rw[En.money_not.2 (.inl (by omega))]
  go_enter Tryz.func62,Tryz.ntmps62
  go_wp2
  go_ret
  exact⟨rfl,rfl⟩
theorem okAt_not {D:List (Int × Int)}{k:Nat}{x y lx ly:Int}(h:D.getD k (0,0)=(x,y))(hl:k≠0→D.getD (k - 1) (0,0)=(lx,ly))(h0:k=0→lx=0∧ly=0)
  (hb:En.money x=false∨y<0∨1000<y∨y<ly∨(0<k∧x≤lx)):¬Ce.okAt D k=true:=by
 rw[Ce.okAt_iff];unfold Ce.fr Ce.mi;rw[h];rw[En.money_not]at hb
 by_cases hk:k=0
 ·obtain⟨rfl,rfl⟩:=h0 hk
  simp only;omega
 ·rw[hl hk]
  simp only;omega
theorem okAt_yes {D:List (Int × Int)}{k:Nat}{x y lx ly:Int}(h:D.getD k (0,0)=(x,y))(hl:k≠0→D.getD (k - 1) (0,0)=(lx,ly))
  (h1:En.money x=true) (h2:¬y<0) (h3:¬1000<y) (h4:¬y<ly) (h5:¬(0<k∧x≤lx)):Ce.okAt D k=true:=by
 rw[Ce.okAt_iff];unfold Ce.fr Ce.mi;rw[h];rw[En.money_iff]at h1
 by_cases hk:k=0
 ·simp only
  omega
 ·rw[hl hk]
  simp only;omega
theorem chk_bad {D:List (Int × Int)}{k:Nat}(hk:k<D.length)(h:¬Ce.okAt D k=true):Ce.chk D=66:=Ce.chk_not fun hR=>h (hR.ok k hk)
def idx (pr:Sch→Bool) (L:List Sch):Int:=match L.findIdx? pr with|some i=>(i:Int)|none => -1
def numIs (q:Int) (s:Sch):Bool:=s.num==q
def nmIs (q:ByteArray) (s:Sch):Bool:=s.nm.data.toList==q.data.toList
theorem find_idx (L:List Sch)(n:Int):find17 L n=idx (numIs n) L:=rfl
theorem idx_none {pr:Sch→Bool}{L:List Sch}(h:∀j (hj:j<L.length),pr L[j]=false):idx pr L = -1:=by
 unfold idx
 rw[show L.findIdx? pr=none from List.findIdx?_eq_none_iff.2 fun x hx=>by
  obtain⟨j,hj,rfl⟩:=List.mem_iff_getElem.1 hx
  exact h j hj]
theorem idx_at {pr:Sch→Bool}{L:List Sch}{k:Nat}(hk:k<L.length)(h:∀j (hj:j<L.length),j<k→pr L[j]=false)(h2:pr L[k]=true):idx pr L=(k:Int):=by
 unfold idx;rw[show L.findIdx? pr=some k from List.findIdx?_eq_some_iff_getElem.2 ⟨hk,h2,fun j hj=>by rw[h j (by omega) hj];decide⟩]
theorem idx_ge (pr:Sch→Bool)(L:List Sch) : -1≤idx pr L∧idx pr L<(L.length:Int):=by
 unfold idx
 cases h:L.findIdx? pr with
 | none=>simp;omega
 | some k =>
   obtain⟨hk, -, -⟩:=List.findIdx?_eq_some_iff_getElem.1 h;simp only;omega
theorem bytes_eq (a b:ByteArray):(a.toList==b.toList)=(a.data.toList==b.data.toList):=by
 rw[ByteArray.toList_eq,ByteArray.toList_eq]
theorem reffind17_any {Q:Nat→Prop}(d:Nat)(p:Option Addr)(L:List Sch)(cap:Nat)(q:Int)(w:World)(h:SsAt Q w d p L):Calls Tryz.prog 122 #[.slice p L.length cap,I O q] w (IntG (find17 L q) w):=by
 have hn:=h.len;have H:=mh h;rw[find_idx];clear h
 go_enter Tryz.func122,Tryz.ntmps122
 go_wp2
 go_loopw [9] (fun i wr=>∃k:Nat,k≤L.length∧i=I O k∧(∀j (hj:j<L.length),j<k→numIs q L[j]=false)∧Below w.heap.size w wr) (fun i _=>L.length - (intOf i).toNat)
 case atStart=>exact⟨0,Nat.zero_le _,rfl,fun j hj hk=>absurd hk (Nat.not_lt_zero j),brf _ _⟩
 case round =>
  obtain⟨k,hk,rfl,hall,hb⟩:=hrel;have HA:=mh hall;have HB:=mh hb;have hk0:(0:Int)≤(k:Int):=inn _
  by_cases hlt:k<L.length
  ·obtain⟨b,off,r,rfl,hbl,hC,hv⟩:=(H.out.below hb).at hlt
   have hk1:(k:Int)<(L.length:Int):=by omega
   have HQ:=mh hv.num;obtain⟨c0,c1,c2,c3,c4,c5,c6,c7,c8,c9⟩:=hC;obtain⟨num,nm,⟨o,tn,tm,tp,tl,tc⟩,bp,bn,bc,least,ex,needs⟩:=r;simp only at c0 c1 c2 c3 c4 c5 c6 c7 c8 c9 HQ;clear hall hb hv;have HB1:=mh (balloc mle HB.out (.cells #[I O num,.string nm,I O o,I O tn,I O tm,.slice tp tl tc,.slice bp bn bc,I O least,I O ex,.bool needs] 112))
   by_cases e1:num=q
   ·have HN:=mh (idx_at (pr:=numIs q) hlt HA.out (by unfold numIs;rw[← HQ.out];exact beq_iff_eq.2 e1))
    subst e1
    go_wp2
    go_ret
    exact⟨by rw[HN.out];rfl,HB1.out⟩
   ·have HZ:=mh (show numIs q L[k]=false by unfold numIs;rw[← HQ.out];exact beq_false_of_ne e1)
    go_wp2
    go_roundw
    case rel=>exact⟨k+1,by omega,by go_num,fun j hj hjk=>by
     by_cases e:j=k
     ·subst e;exact HZ.out
     ·exact HA.out j hj (by omega),HB1.out⟩
    case measure=>simp[intOf];omega
  ·obtain rfl:k=L.length:=by omega
   have HN:=mh (idx_none (pr:=numIs q) (fun j hj=>HA.out j hj hj));clear hall hb
   go_wp2
   go_ret
   exact⟨by rw[HN.out];rfl,HB.out⟩
theorem find17_neg {L:List Sch}{n:Int}(h:find17 L n<0):(L.find? fun x=>x.num==n)=none:=by
 unfold find17 at h
 cases e:L.findIdx? fun s=>s.num==n with
 | none =>
   rw[List.find?_eq_none];intro x hx;rw[List.findIdx?_eq_none_iff.1 e x hx]
   decide
 | some k=>rw[e]at h;simp only at h;omega
theorem find17_pos {L:List Sch}{n:Int}{k:Nat}(h:find17 L n=(k:Int)):∃hk:k<L.length,(L.find? fun x=>x.num==n)=some L[k]:=by
 unfold find17 at h
 cases e:L.findIdx? fun s=>s.num==n with
 | none=>rw[e]at h;simp only at h;omega
 | some j =>
   rw[e]at h;simp only at h;obtain rfl:j=k:=by omega
   obtain⟨hk,h1,h2⟩:=List.findIdx?_eq_some_iff_getElem.1 e;refine⟨hk,List.find?_eq_some_iff_getElem.2 ⟨h1,j,hk,rfl,fun i hi=>?_⟩⟩;have:=h2 i hi
   simpa using this
theorem find17_ge (L:List Sch)(n:Int) : -1≤find17 L n∧find17 L n<(L.length:Int):=idx_ge _ L
theorem mut_bad {L:List Sch}{s:Sch}{k:Nat}(hk:k<16)(h:mutN L s k=false):mutual17 L s=false:=by
 unfold mutual17;rw[Bool.eq_false_iff];intro h2;rw[List.all_eq_true]at h2;rw[h2 k (List.mem_range.2 hk)]at h
 cases h
theorem mut_zero {L:List Sch}{s:Sch}{k:Nat}(h:bitB s.ex k=false):mutN L s k=true:=by unfold mutN;rw[if_pos h]
theorem mut_none {L:List Sch}{s:Sch}{k:Nat}(h:bitB s.ex k=true)(h2:find17 L k<0):mutN L s k=false:=by
 unfold mutN;rw[if_neg (by rw[h];decide),find17_neg h2]
theorem mut_some {L:List Sch}{s:Sch}{k j:Nat}(h:bitB s.ex k=true)(h2:find17 L k=(j:Int))(hj:j<L.length):mutN L s k=bitB L[j].ex s.num:=by
 obtain⟨_,e⟩:=find17_pos h2;unfold mutN;rw[if_neg (by rw[h];decide),e]
theorem all_range_succ (f:Nat→Bool)(k:Nat):(List.range (k+1)).all f=((List.range k).all f&&f k):=by
 rw[List.range_succ,List.all_append];simp
def ChkG (v:Int × Int) (w:World) (e:Ending) (w' : World):Prop:=e = .returned (.tuple #[I O v.1,I O v.2])∧Below w.heap.size w w'
theorem chk_long {L:List Sch}(h:16<L.length):chk17 L=(0,1):=by unfold chk17;rw[if_pos h]
theorem chk_A {L:List Sch}(h:¬16<L.length){k:Nat}(hk:k<L.length)(ha:∀j,j<k→errA L j=0)(h2:errA L k≠0):chk17 L=((k:Int),errA L k):=by
 unfold chk17;rw[if_neg h,fst_some hk ha h2]
theorem chk_B {L:List Sch}(h:¬16<L.length)(hA:∀j,j<L.length→errA L j=0){k:Nat}(hk:k<L.length)(ha:∀j,j<k→errB L j=0)(h2:errB L k≠0):chk17 L=((k:Int),17):=by
 unfold chk17;rw[if_neg h,fst_none hA];simp only;rw[fst_some hk ha h2]
theorem chk_ok {L:List Sch}(h:¬16<L.length)(hA:∀j,j<L.length→errA L j=0)(hB:∀j,j<L.length→errB L j=0):chk17 L=(-1,0):=by
 unfold chk17;rw[if_neg h,fst_none hA];simp only;rw[fst_none hB]
theorem errA_one {L:List Sch}{k:Nat}(hk:k<L.length)(h:one17 L[k]≠0):errA L k=one17 L[k]:=by
 unfold errA;rw[List.getElem?_eq_getElem hk];simp only;rw[if_pos h]
theorem errA_twice {L:List Sch}{k:Nat}(hk:k<L.length)(h:one17 L[k]=0):errA L k=if twice L k L[k]=true then 6 else 0:=by
 unfold errA;rw[List.getElem?_eq_getElem hk];simp only;rw[if_neg (by omega)]
theorem errB_at {L:List Sch}{k:Nat}(hk:k<L.length):errB L k=if mutual17 L L[k]=true then 0 else 17:=by
 unfold errB;rw[List.getElem?_eq_getElem hk]
theorem one_num {s:Sch}(h:one17 s=0):0≤s.num∧s.num≤15:=by
 unfold one17 at h
 split at h
 ·cases h
 ·omega
theorem errA_num {L:List Sch}{k:Nat}(hk:k<L.length)(h:errA L k=0):0≤L[k].num∧L[k].num≤15:=by
 by_cases h1:one17 L[k]=0
 ·exact one_num h1
 ·rw[errA_one hk h1]at h;exact absurd h h1
theorem En.Good.snoc {e u x:Int}{l:List Int}(h:En.Good e u l)(hx:0≤x∧x≤68719476736)(hl:l.length<64):En.Good e u (l ++ [x]) :=
 ⟨h.e0,h.e1,h.u0,h.u1,by simp;omega,fun y hy=>by
  rcases List.mem_append.1 hy with h1|h1
  ·exact h.all y h1
  ·rw[List.mem_singleton.1 h1];exact hx⟩
theorem shList_bd {t:Int}{zs:List Int}(he:shErr t zs=0):(∀x∈shList t zs,0≤x∧x≤t)∧(shList t zs).length=zs.length:=by
 have h1:¬64<zs.length:=fun h=>by unfold shErr at he;rw[if_pos h]at he;omega
 have h2:¬(Sh.limited t=false∨(zs.any fun x => !Sh.limited x)=true):=fun h=>by unfold shErr at he;rw[if_neg h1,if_pos h]at he;omega
 have ht:Sh.limited t=true:=by simpa using fun h=>h2 (.inl h)
 have hz:(zs.any fun x => !Sh.limited x)=false:=by simpa using fun h=>h2 (.inr h)
 have ht' := Sh.limited_iff.1 ht;unfold shList;rw[if_neg (by rw[he];simp)]
 split
 ·refine⟨fun x hx=>?_,by simp⟩
  rw[List.eq_of_mem_replicate hx];omega
 ·rename_i hs
  have hR:Sh.Right t zs:=any_odd ht hz hs;have h0:∀x∈Sh.shares t zs,0≤x:=fun x hx=>by
   obtain⟨i,_,rfl⟩:=List.mem_map.1 hx;exact(hR.share_bd i).1
  refine⟨fun x hx=>⟨h0 x hx,?_⟩,by unfold Sh.shares;simp⟩
  rw[← hR.total];exact Sh.le_sum h0 hx
theorem units_ok {e u:Int}{l:List Int}(h:En.Good e u l):shErr (e / u) (En.units u l)=0:=by
 have h1:Sh.limited (e / u)=true:=Sh.limited_iff.2 ⟨Int.ediv_nonneg h.e0 (by have:=h.u0;omega),by have:=Int.ediv_le_self u h.e0;have:=h.e1;omega⟩;have h2:((En.units u l).any fun x => !Sh.limited x)=false:=by
  rw[List.any_eq_false];intro x hx;have:=h.unit x hx;rw[Sh.limited_iff.2 ⟨this.1,by omega⟩]
  simp
 unfold shErr;rw[if_neg (by rw[En.units_len];have:=h.len;omega),if_neg (by rw[h1,h2];simp)]
end Go.Proofs.YtljibgchickcpaaGreatDoor
namespace Go.Proofs.YtljibgchickcpaaGreatDoor.En
variable {e u:Int} {l:List Int}
theorem Good.right (h:Good e u l)(hq:e / u<En.usum u l):Sh.Right (e / u) (units u l)∧shList (e / u) (units u l)=Sh.shares (e / u) (units u l):=by
 have hE:=units_ok h;have e0:0≤e / u:=Int.ediv_nonneg h.e0 (by have:=h.u0;omega);have hs:Sh.sum (units u l)≠0:=by unfold En.usum at hq;omega
 have h1:¬64<(units u l).length:=by rw[units_len];have:=h.len;omega
 have h2:¬(Sh.limited (e / u)=false∨((units u l).any fun x => !Sh.limited x)=true):=fun hh=>by unfold shErr at hE;rw[if_neg h1,if_pos hh]at hE;omega
 refine⟨any_odd (by simpa using fun h=>h2 (.inl h)) (by simpa using fun h=>h2 (.inr h)) hs,?_⟩
 unfold shList;rw[if_neg (by rw[hE];simp),if_neg hs]
theorem Good.paid_scaled (h:Good e u l)(hq:e / u<En.usum u l):paid e u l=Sh.shares (e / u) (units u l):=by
 unfold paid;rw[if_pos hq];exact(h.right hq).2
theorem paid_enough (hq:¬e / u<En.usum u l):paid e u l=units u l:=by unfold paid;rw[if_neg hq]
theorem units_getD (i:Nat)(hi:i<l.length):(units u l).getD i 0=l.getD i 0 / u:=by
 unfold units;simp[List.getD_eq_getElem?_getD,hi]
theorem Good.paid_len (h:Good e u l):(paid e u l).length=l.length:=by
 by_cases hq:e / u<En.usum u l
 ·rw[h.paid_scaled hq];unfold Sh.shares;simp[units_len]
 ·rw[paid_enough hq,units_len]
theorem Good.scale_eq (h:Good e u l):scale e u l=(paid e u l).map fun x=>x*u:=by unfold scale;rw[if_pos (err_of h)]
theorem Good.scale_len (h:Good e u l):(scale e u l).length=l.length:=by rw[h.scale_eq,List.length_map,h.paid_len]
theorem Good.scale_getD (h:Good e u l)(i:Nat)(hi:i<l.length):(scale e u l).getD i 0=(paid e u l).getD i 0*u:=by
 have hl:=h.paid_len;rw[h.scale_eq]
 simp[List.getD_eq_getElem?_getD,hl,hi]
theorem Good.at (h:Good e u l)(i:Nat)(hi:i<l.length):0≤l.getD i 0∧l.getD i 0≤68719476736:=by
 rw[List.getD_eq_getElem?_getD,List.getElem?_eq_getElem hi];exact h.all _ (List.getElem_mem hi)
theorem Good.paid_bd (h:Good e u l)(i:Nat)(hi:i<l.length):0≤(paid e u l).getD i 0∧(paid e u l).getD i 0≤l.getD i 0 / u:=by
 have hu:=h.unit
 by_cases hq:e / u<En.usum u l
 ·have hR:=(h.right hq).1
  rw[h.paid_scaled hq,Sh.shares_getD _ _ _ (by rw[units_len];exact hi),← units_getD i hi];exact⟨(hR.share_bd i).1,hR.share_le hq (by rw[units_len];exact hi)⟩
 ·rw[paid_enough hq,units_getD i hi]
  exact⟨Int.ediv_nonneg (h.at i hi).1 (by have:=h.u0;omega),Int.le_refl _⟩
theorem Good.paid_mono (h:Good e u l)(i k:Nat)(hi:i<l.length)(hk:k<l.length)(hlt:l.getD k 0 / u<l.getD i 0 / u):(paid e u l).getD k 0≤(paid e u l).getD i 0:=by
 by_cases hq:e / u<En.usum u l
 ·have hR:=(h.right hq).1
  rw[h.paid_scaled hq,Sh.shares_getD _ _ i (by rw[units_len];exact hi),Sh.shares_getD _ _ k (by rw[units_len];exact hk)];exact hR.share_mono (by rw[units_len];exact hk) (by rw[units_len];exact hi) (by rw[units_getD k hk,units_getD i hi];exact hlt)
 ·rw[paid_enough hq,units_getD i hi,units_getD k hk];omega
theorem Good.paid_sum (h:Good e u l):Sh.sum (paid e u l)≤e / u∧(e / u<En.usum u l→Sh.sum (paid e u l)=e / u)∧(¬e / u<En.usum u l→Sh.sum (paid e u l)=En.usum u l):=by
 by_cases hq:e / u<En.usum u l
 ·have hR:=(h.right hq).1
  rw[h.paid_scaled hq,hR.total];exact⟨Int.le_refl _,fun _=>rfl,fun hn=>absurd hq hn⟩
 ·rw[paid_enough hq]
  exact⟨by unfold En.usum at hq;omega,fun hn=>absurd hn hq,fun _=>rfl⟩
theorem Good.scale_sum (h:Good e u l):Sh.sum (scale e u l)=u*Sh.sum (paid e u l):=by
 have e1:=Sh.sum_map_mul u (fun x=>x) (paid e u l);rw[List.map_id']at e1;rw[h.scale_eq,← e1]
 congr 1
 apply List.map_congr_left
 intro x _;exact Int.mul_comm _ _
structure Keeps (e u:Int) (l s:List Int):Prop where
 len:s.length=l.length
 at_:∀i,i<l.length→0≤s.getD i 0∧s.getD i 0≤l.getD i 0∧s.getD i 0 % u=0
 mono:∀i k,i<l.length→k<l.length→l.getD k 0 / u<l.getD i 0 / u→s.getD k 0≤s.getD i 0
 sum:Sh.sum s≤e
 near:scaled e u l=true→e - Sh.sum s<u
theorem Good.keeps (h:Good e u l):Keeps e u l (scale e u l):=by
 have u0:=h.u0;have hs:=h.paid_sum;have hd:=Int.emod_add_mul_ediv e u;have r0:=Int.emod_nonneg e (show u≠0 by omega);have r1:=Int.emod_lt_of_pos e (show 0<u by omega);refine⟨h.scale_len,fun i hi=>?_,fun i k hi hk hlt=>?_,?_,fun hsc=>?_⟩
 ·have hb:=h.paid_bd i hi
  have ha:=h.at i hi;rw[h.scale_getD i hi];refine⟨Int.mul_nonneg hb.1 (by omega),?_,Int.mul_emod_left _ _⟩;have h1:(paid e u l).getD i 0*u≤l.getD i 0 / u*u:=Int.mul_le_mul_of_nonneg_right hb.2 (by omega);have h2:=Int.ediv_mul_le (l.getD i 0) (show u≠0 by omega);omega
 ·rw[h.scale_getD i hi,h.scale_getD k hk]
  exact Int.mul_le_mul_of_nonneg_right (h.paid_mono i k hi hk hlt) (by omega)
 ·rw[h.scale_sum]
  have:u*Sh.sum (paid e u l)≤u*(e / u):=Int.mul_le_mul_of_nonneg_left hs.1 (by omega);omega
 ·have hq:e / u<En.usum u l:=by
   unfold scaled at hsc;simp only[Bool.and_eq_true,decide_eq_true_eq]at hsc;exact hsc.2
  rw[h.scale_sum,hs.2.1 hq];omega
end Go.Proofs.YtljibgchickcpaaGreatDoor.En
