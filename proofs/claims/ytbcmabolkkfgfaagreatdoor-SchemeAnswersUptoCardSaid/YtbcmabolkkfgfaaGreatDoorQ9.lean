/- Packed. -/
import Derived.Test.YtbcmabolkkfgfaaGreatDoorQ8
open Go.Value renaming int → I
open Go.IntKind renaming i64 → O
namespace Go.Proofs.YtbcmabolkkfgfaaGreatDoor
open Go.RowKit Te Sc
theorem Appends.apart {w w' : World}{B G:Nat}{v v' : Value}(h:Appends w w' B G v v'){b:Nat}(hG:w.heap.size≤G)(hb:b<w.heap.size)(hn:v.ownBlock≠some b):v'.ownBlock≠some b:=fun e2=>by
 rcases h.block with e3|e3
 ·rw[e3]at e2;exact hn e2
 ·rw[e3]at e2;injection e2 with e2;omega
def Qx (B:Nat) (v:Value) (lb:Option Nat) (b:Nat):Prop:=B≤b∧v.ownBlock≠some b∧lb≠some b
structure Row1 (Q:Nat→Prop) (wr:World) (B d:Nat) (lb:Option Nat) (r:RSx) (s:Sch):Prop where
 num:r.num=s.num
 nm:r.nm=s.nm
 t:TV Q wr d r.t s.cond
 br:OwnR SBk wr 54 B (.slice r.bp r.bn r.bc) s.br
 bn:r.bn=s.br.length
 bk:(Value.slice r.bp r.bn r.bc).ownBlock=lb
 least:r.least=s.least
 ex:r.ex=s.ex
 needs:r.needs=s.needs
structure BR (B d:Nat) (wr:World) (v:Value) (A:List Sch) (R:List RSx) (r:RSx) (lb:Option Nat):Prop where
 hl:R.length=A.length
 own:OwnR SSc wr 31 B v (R ++ [r])
 init:∀k (h:k<R.length) (h' : k<A.length),SV (Qx B v lb) wr d R[k] A[k]
 apart:∀b,lb=some b→v.ownBlock≠some b
def Bld (B:Nat) (wr:World) (v:Value) (A:List Sch) (s:Sch):Prop:=∃(d:Nat) (R:List RSx) (r:RSx) (lb:Option Nat),BR B d wr v A R r lb∧Row1 (Qx B v lb) wr B d lb r s
theorem Bld.blocks {B:Nat}{wr w' : World}{v:Value}{A:List Sch}{s:Sch}(h:Bld B wr v A s)(hs:wr.heap.size≤w'.heap.size)(hb:∀b,B≤b→b<wr.heap.size→w'.heap[b]?=wr.heap[b]?):Bld B w' v A s:=by
 obtain⟨d,R,r,lb,h1,h2⟩:=h;have key:∀b,Qx B v lb b→b<wr.heap.size→w'.heap[b]?=wr.heap[b]?∧Qx B v lb b:=fun b q hl=>⟨hb b q.1 hl,q⟩
 exact⟨d,R,r,lb,⟨h1.hl,h1.own.blocks (fun g _ h3 h4=>hb g h3 h4),fun k a b=>(h1.init k a b).change hs key,h1.apart⟩,
  ⟨h2.num,h2.nm,h2.t.change hs key,h2.br.blocks (fun g _ h3 h4=>hb g h3 h4),h2.bn,h2.bk,h2.least,h2.ex,h2.needs⟩⟩
theorem Bld.below {B:Nat}{wr w' : World}{v:Value}{A:List Sch}{s:Sch}(h:Bld B wr v A s)(hb:Below wr.heap.size wr w'):Bld B w' v A s:=h.blocks hb.size fun b _ hl=>hb.block b hl
theorem Bld.drew {B:Nat}{wr:World}{v:Value}{A:List Sch}{s:Sch}(h:Bld B wr v A s):Bld B wr.drew v A s:=h.below (brf _ _).drew
theorem Row1.sv {B d:Nat}{wr w' : World}{v v' : Value}{lb:Option Nat}{r:RSx}{s:Sch}(h:Row1 (Qx B v lb) wr B d lb r s)(hs:wr.heap.size≤w'.heap.size)(hap:∀b,lb=some b→v.ownBlock≠some b)
  (hb:∀b,B≤b→b<wr.heap.size→v.ownBlock≠some b→w'.heap[b]?=wr.heap[b]?∧v'.ownBlock≠some b):SV (Qx B v' none) w' d r s:=by
 have ho:OwnR SBk w' 54 B (.slice r.bp r.bn r.bc) s.br:=h.br.blocks fun g e h3 h4=>(hb g h3 h4 (hap g (h.bk▸e))).1
 obtain⟨p,c,e,h1,h2,h3, -,h5⟩:=ho.cut h.bn.symm;simp only[Value.slice.injEq,true_and]at e;obtain⟨e1,e2⟩:=e;refine⟨h.num,h.nm,h.t.change hs fun b q hl=>⟨(hb b q.1 hl q.2.1).1,q.1,(hb b q.1 hl q.2.1).2,fun e=>by cases e⟩,e1▸h5,h.bn,by rw[e2];exact h3,fun e=>by rw[e2];exact(h1 (e1▸e)).1,fun a ea=>?_,h.least,h.ex,h.needs⟩;have h6:=h2 a (e1▸ea);have hown:(Value.slice r.bp r.bn r.bc).ownBlock=some a.block:=by rw[ea];rfl
 have hlt:a.block<wr.heap.size:=(h.br.lt hown).2;exact .inr ⟨h6.2.2.1,(hb _ h6.2.2.1 hlt (hap _ (h.bk▸hown))).2,fun e=>by cases e⟩
theorem Bld.ss {B:Nat}{wr:World}{v:Value}{A:List Sch}{s:Sch}(h:Bld B wr v A s){n:Nat}(hn:(A ++ [s]).length=n):∃p c d,v = .slice p n c∧n≤c∧SsAt (fun b=>B≤b) wr d p (A ++ [s]):=by
 obtain⟨d,R,r,lb,h1,h2⟩:=h;have hRl:(R ++ [r]).length=n:=by rw[← hn,lap,lap,h1.hl];rfl
 obtain⟨p,c,e,k1,k2,k3, -,k5⟩:=h1.own.cut hRl;have ho:=h2.br;obtain⟨p', c', e', h1', h2', h3', -,h5'⟩:=ho.cut h2.bn.symm;simp only[Value.slice.injEq,true_and]at e'; obtain⟨e1,e2⟩:=e'; have hwd:∀b,Qx B v lb b→b<wr.heap.size→wr.heap[b]?=wr.heap[b]?∧B≤b:=fun b q _=>⟨rfl,q.1⟩
 refine⟨p,c,d,e,k3,⟨⟨R ++ [r],by rw[hRl,hn],k5,fun k a b=>?_⟩,fun a ea => .inr (k2 a ea).2.2.1⟩⟩
 by_cases hlt:k<R.length
 ·rw[List.getElem_append_left hlt,List.getElem_append_left (by rw[← h1.hl];exact hlt)]
  exact(h1.init k hlt (by rw[← h1.hl];exact hlt)).change mle hwd
 ·have ek:k=R.length:=by rw[lap]at a;simp at a;omega
  subst ek;rw[List.getElem_append_right mle,List.getElem_append_right (by rw[h1.hl];exact Nat.le_refl _)];simp only[Nat.sub_self,h1.hl,List.getElem_cons_zero];exact⟨h2.num,h2.nm,h2.t.change mle hwd,e1▸h5', h2.bn,by rw[e2];exact h3', fun e=>by rw[e2];exact(h1' (e1▸e)).1,fun a ea => .inr (h2' a (e1▸ea)).2.2.1,h2.least,h2.ex,h2.needs⟩
def BldAt (B:Nat) (wr:World) (v:Value) (L:List Sch):Prop:=(L = []∧OwnR SSc wr 31 B v [])∨∃A s,L=A ++ [s]∧Bld B wr v A s
theorem BldAt.blocks {B:Nat}{wr w' : World}{v:Value}{L:List Sch}(h:BldAt B wr v L)(hs:wr.heap.size≤w'.heap.size)(hb:∀b,B≤b→b<wr.heap.size→w'.heap[b]?=wr.heap[b]?):BldAt B w' v L:=by
 rcases h with⟨h1,h2⟩|⟨A,s,h1,h2⟩
 ·exact .inl ⟨h1,h2.blocks fun g _ h3 h4=>hb g h3 h4⟩
 ·exact .inr ⟨A,s,h1,h2.blocks hs hb⟩
theorem BldAt.below {B:Nat}{wr w' : World}{v:Value}{L:List Sch}(h:BldAt B wr v L)(hb:Below wr.heap.size wr w'):BldAt B w' v L:=h.blocks hb.size fun b _ hl=>hb.block b hl
def BldR (B:Nat) (wr:World) (v:Value) (R:List RSx) (L:List Sch):Prop:=(L = []∧R = []∧OwnR SSc wr 31 B v [])∨∃A s d R' r lb,L=A ++ [s]∧R=R' ++ [r]∧BR B d wr v A R' r lb∧Row1 (Qx B v lb) wr B d lb r s
theorem BldAt.rows {B:Nat}{wr:World}{v:Value}{L:List Sch}(h:BldAt B wr v L):∃R:List RSx,R.length=L.length∧OwnR SSc wr 31 B v R∧BldR B wr v R L:=by
 rcases h with⟨rfl,h2⟩|⟨A,s,rfl,d,R,r,lb,h1,h2⟩
 ·exact⟨[],rfl,h2,.inl ⟨rfl,rfl,h2⟩⟩
 ·exact⟨R ++ [r],by rw[lap,lap,h1.hl];rfl,h1.own,.inr ⟨A,s,d,R,r,lb,rfl,rfl,h1,h2⟩⟩
def rowF (num:Int) (nm:ByteArray) (least:Int) (needs:Bool):RSx:=⟨num,nm,⟨0,0,0,none,0,0⟩,none,0,0,least,0,needs⟩
def schF (num:Int) (nm:ByteArray) (least:Int) (needs:Bool):Sch:=⟨num,nm,.mk 0 0 0 [], [],least,0,needs⟩
theorem row1F (Q:Nat→Prop)(wr:World)(B d:Nat)(num:Int)(nm:ByteArray)(least:Int)(needs:Bool):Row1 Q wr B d none (rowF num nm least needs) (schF num nm least needs) :=
 ⟨rfl,rfl,⟨⟨rfl,rfl,rfl,rfl,Nat.le_refl _,fun _=>rfl⟩,TmsAt.nil _ _ _ _⟩,OwnR.nil _ _ _,rfl,rfl,rfl,rfl,rfl⟩
theorem BldR.push {B G:Nat}{wr w5 w6:World}{v v6:Value}{R0:List RSx}{L:List Sch}(h:BldR B wr v R0 L)(hb:Below wr.heap.size wr w5)(hG:w5.heap.size≤G){num:Int}{nm:ByteArray}{least:Int}{needs:Bool}
  (hO:OwnR SSc w6 31 B v6 (R0 ++ [rowF num nm least needs])) (hap:Appends w5 w6 B G v v6):Bld B w6 v6 L (schF num nm least needs):=by
 have hsz:wr.heap.size≤w6.heap.size:=Nat.le_trans hb.size hap.size;have key:∀b,B≤b→b<wr.heap.size→v.ownBlock≠some b→w6.heap[b]?=wr.heap[b]?∧v6.ownBlock≠some b:=fun b _ hl hn =>
  have hl5:=nll hl hb.size
  ⟨(hap.far b hl5 hn).trans (hb.block b hl),hap.apart hG hl5 hn⟩
 rcases h with⟨rfl,rfl,h2⟩|⟨A,s,d,R,r,lb,rfl,rfl,h1,h2⟩
 ·exact⟨0, [],_,none,⟨rfl,hO,fun k h=>by simp at h,fun b e=>by cases e⟩,row1F _ _ _ _ _ _ _ _⟩
 ·refine⟨d,R ++ [r],_,none,⟨by rw[lap,lap,h1.hl];rfl,hO,fun k a b=>?_,fun b e=>by cases e⟩,row1F _ _ _ _ _ _ _ _⟩
  by_cases hlt:k<R.length
  ·rw[List.getElem_append_left hlt,List.getElem_append_left (by rw[← h1.hl];exact hlt)]
   exact(h1.init k hlt (by rw[← h1.hl];exact hlt)).change hsz fun b q hl=>⟨(key b q.1 hl q.2.1).1,q.1,(key b q.1 hl q.2.1).2,fun e=>by cases e⟩
  ·have ek:k=R.length:=by rw[lap]at a;simp at a;omega
   subst ek;rw[List.getElem_append_right mle,List.getElem_append_right (by rw[h1.hl];exact Nat.le_refl _)];simp only[Nat.sub_self,h1.hl,List.getElem_cons_zero];exact h2.sv hsz h1.apart key
theorem BR.at {B d:Nat}{wr:World}{v:Value}{A:List Sch}{R:List RSx}{r:RSx}{lb:Option Nat}(h:BR B d wr v A R r lb):∃g c,v = .slice (some ⟨g,0,none⟩) (A.length+1) c∧B≤g∧g<wr.heap.size∧A.length+1≤9223372036854775807∧SCells wr g (A.length*10) r∧(∀i,wr.frozen? ⟨g,i,none⟩=false) ∧
  ∀i u r', i<10→sCells r' = (sCells r).set i u→OwnR SSc (wr.setCell ⟨g,A.length*10+i,none⟩ u) 31 B v (R ++ [r']):=by
 have hk:R.length<(R ++ [r]).length:=by simp
 obtain⟨p,c,e,k1,k2,k3,k4,k5⟩:=h.own.cut (show(R ++ [r]).length=A.length+1 by rw[lap,h.hl];rfl);have ho:=h.own;rw[e]at ho;obtain⟨g,eg,hn,hB,hg,hc,hf,hs⟩:=ho.at hk;have eR:(R ++ [r])[R.length]=r:=by rw[List.getElem_append_right mle];simp
 rw[eR]at hc hs;have hk10:SSc.k=10:=rfl;rw[h.hl,hk10]at hc hs;refine⟨g,c,by rw[e,eg],hB,hg,by unfold maxLen at k4;omega,⟨hc 0 _ rfl,hc 1 _ rfl,hc 2 _ rfl,hc 3 _ rfl,hc 4 _ rfl,hc 5 _ rfl,hc 6 _ rfl,hc 7 _ rfl,hc 8 _ rfl,hc 9 _ rfl⟩,hf,fun i u r' hi hr=>?_⟩;have:=hs i u r' hi hr;rw[e];have e3:(R ++ [r]).set R.length r' = R ++ [r']:=by rw[List.set_append_right _ _ mle];simp
 rw[h.hl]at e3;rw[e3]at this;exact this
theorem setCell_far (w:World){g b:Nat}(h:b≠g)(i:Nat)(u:Value):(w.setCell ⟨g,i,none⟩ u).heap[b]?=w.heap[b]?:=by
 simp[World.setCell,Array.getElem?_modify,Ne.symm h]
theorem setCell_sz (w:World)(a:Addr)(u:Value):(w.setCell a u).heap.size=w.heap.size:=by simp[World.setCell]
theorem BR.put {B d:Nat}{wr:World}{v:Value}{A:List Sch}{R:List RSx}{r r' : RSx}{lb:Option Nat}(h:BR B d wr v A R r lb){g c:Nat}(hv:v = .slice (some ⟨g,0,none⟩) (A.length+1) c){i:Nat}{u:Value}(hi:i<10)(hr:sCells r' = (sCells r).set i u) :
  BR B d (wr.setCell ⟨g,A.length*10+i,none⟩ u) v A R r' lb:=by
 obtain⟨g', c', e, -, -, -, -, -,hs⟩:=h.at;rw[hv]at e;simp only[Value.slice.injEq,Option.some.injEq,Addr.mk.injEq,and_true]at e;obtain⟨rfl, -⟩:=e;refine⟨h.hl,hs i u r' hi hr,fun k a b=>(h.init k a b).change (Nat.le_of_eq (setCell_sz _ _ _).symm) fun b q hl=>⟨setCell_far _ (fun e=>q.2.1 (by rw[hv,e];rfl)) _ _,q⟩,h.apart⟩
theorem Row1.put {B d g:Nat}{wr:World}{v:Value}{lb:Option Nat}{r:RSx}{s:Sch}(h:Row1 (Qx B v lb) wr B d lb r s)(hg:v.ownBlock=some g)(hap:∀b,lb=some b→v.ownBlock≠some b)(i:Nat)(u:Value):Row1 (Qx B v lb) (wr.setCell ⟨g,i,none⟩ u) B d lb r s :=
 ⟨h.num,h.nm,h.t.change (Nat.le_of_eq (setCell_sz _ _ _).symm) fun b q _=>⟨setCell_far _ (fun e=>q.2.1 (by rw[hg,e])) _ _,q⟩,
  h.br.blocks fun b e _ _=>setCell_far _ (fun e2=>hap b (h.bk▸e) (by rw[hg,e2])) _ _,h.bn,h.bk,h.least,h.ex,h.needs⟩
theorem Bld.setCond {B:Nat}{wr w5:World}{v:Value}{A:List Sch}{s:Sch}(h:Bld B wr v A s)(hb:Below wr.heap.size wr w5){d' : Nat}{row:RT}{t:Tm}(ht:TV (NewQ wr.heap.size) w5 d' row t){g c:Nat}(hv:v = .slice (some ⟨g,0,none⟩) (A.length+1) c) :
  Bld B ((((w5.setCell ⟨g,A.length*10+2,none⟩ (I O row.op)).setCell ⟨g,A.length*10+3,none⟩ (I O row.num)).setCell ⟨g,A.length*10+4,none⟩ (I O row.more)).setCell ⟨g,A.length*10+5,none⟩ (.slice row.p row.n row.c)) v A { s with cond:=t }:=by
 obtain⟨d1,R1,r1,lb1,h11,h21⟩:=h;have hgb:v.ownBlock=some g:=by rw[hv];rfl
 have hgl:=h11.own.lt hgb;have key5:∀b,Qx B v lb1 b→b<wr.heap.size→w5.heap[b]?=wr.heap[b]?∧Qx B v lb1 b:=fun b q hl=>⟨hb.block b hl,q⟩
 have h1:BR B d1 w5 v A R1 r1 lb1:=⟨h11.hl,h11.own.below hb,fun k a b=>(h11.init k a b).change hb.size key5,h11.apart⟩;have h2:Row1 (Qx B v lb1) w5 B d1 lb1 r1 s:=⟨h21.num,h21.nm,h21.t.change hb.size key5,h21.br.below hb,h21.bn,h21.bk,h21.least,h21.ex,h21.needs⟩;have hlb:∀b,lb1=some b→b<wr.heap.size:=fun b e=>(h21.br.lt (h21.bk.trans e)).2
 obtain⟨num,nm,rt,bp,bn,bc,least,ex,needs⟩:=r1;have p1:=h1.put hv (i:=2) (u:=I O row.op) (r' := ⟨num,nm,⟨row.op,rt.num,rt.more,rt.p,rt.n,rt.c⟩,bp,bn,bc,least,ex,needs⟩) (by omega) rfl;have p2:=p1.put hv (i:=3) (u:=I O row.num) (r' := ⟨num,nm,⟨row.op,row.num,rt.more,rt.p,rt.n,rt.c⟩,bp,bn,bc,least,ex,needs⟩) (by omega) rfl;have p3:=p2.put hv (i:=4) (u:=I O row.more) (r' := ⟨num,nm,⟨row.op,row.num,row.more,rt.p,rt.n,rt.c⟩,bp,bn,bc,least,ex,needs⟩) (by omega) rfl;have p4:=p3.put hv (i:=5) (u := .slice row.p row.n row.c) (r' := ⟨num,nm,row,bp,bn,bc,least,ex,needs⟩) (by omega) rfl;have q4:=(((h2.put hgb h1.apart (A.length*10+2) (I O row.op)).put hgb h1.apart (A.length*10+3) (I O row.num)).put hgb h1.apart (A.length*10+4) (I O row.more)).put hgb h1.apart (A.length*10+5) (.slice row.p row.n row.c);have far:∀b,b≠g→((((w5.setCell ⟨g,A.length*10+2,none⟩ (I O row.op)).setCell ⟨g,A.length*10+3,none⟩ (I O row.num)).setCell ⟨g,A.length*10+4,none⟩ (I O row.more)).setCell ⟨g,A.length*10+5,none⟩ (.slice row.p row.n row.c)).heap[b]?=w5.heap[b]?:=fun b hn=>by
  rw[setCell_far _ hn,setCell_far _ hn,setCell_far _ hn,setCell_far _ hn]
 have sz:((((w5.setCell ⟨g,A.length*10+2,none⟩ (I O row.op)).setCell ⟨g,A.length*10+3,none⟩ (I O row.num)).setCell ⟨g,A.length*10+4,none⟩ (I O row.more)).setCell ⟨g,A.length*10+5,none⟩ (.slice row.p row.n row.c)).heap.size=w5.heap.size:=by
  rw[setCell_sz,setCell_sz,setCell_sz,setCell_sz]
 have t4:TV (Qx B v lb1) _ d' row t:=ht.change (Nat.le_of_eq sz.symm) fun b q _=>⟨far b (by unfold NewQ at q;omega),by unfold NewQ at q;omega,fun e=>by rw[hgb]at e;injection e with e;unfold NewQ at q;omega,fun e=>by have:=hlb b e;unfold NewQ at q;omega⟩
 refine⟨max d1 d', R1,_,lb1,⟨p4.hl,p4.own,fun k a b=>(p4.init k a b).deep (Nat.le_max_left _ _),p4.apart⟩,⟨q4.num,q4.nm,t4.deep (Nat.le_max_right _ _),q4.br,q4.bn,q4.bk,q4.least,q4.ex,q4.needs⟩⟩
theorem Bld.setEx {B:Nat}{wr:World}{v:Value}{A:List Sch}{s:Sch}(h:Bld B wr v A s)(x:Int){g c:Nat}(hv:v = .slice (some ⟨g,0,none⟩) (A.length+1) c) :
  Bld B (wr.setCell ⟨g,A.length*10+8,none⟩ (I O x)) v A { s with ex:=x }:=by
 obtain⟨d1,R1,r1,lb1,h1,h2⟩:=h;have hgb:v.ownBlock=some g:=by rw[hv];rfl
 obtain⟨num,nm,rt,bp,bn,bc,least,ex,needs⟩:=r1;have p1:=h1.put hv (i:=8) (u:=I O x) (r' := ⟨num,nm,rt,bp,bn,bc,least,x,needs⟩) (by omega) rfl;have q1:=h2.put hgb h1.apart (A.length*10+8) (I O x);exact⟨d1,R1,_,lb1,p1,⟨q1.num,q1.nm,q1.t,q1.br,q1.bn,q1.bk,q1.least,rfl,q1.needs⟩⟩
theorem Bld.brackets {B:Nat}{wr:World}{v:Value}{A:List Sch}{s:Sch}(h:Bld B wr v A s){g c:Nat}(hv:v = .slice (some ⟨g,0,none⟩) (A.length+1) c) :
  ∃bp bc,wr.cell? ⟨g,A.length*10+6,none⟩=some (.slice bp s.br.length bc)∧OwnR SBk wr 54 B (.slice bp s.br.length bc) s.br∧(Value.slice bp s.br.length bc).ownBlock≠some g ∧
    ∀(w5 w6:World) (G:Nat) (p:Option Addr) (n cc:Nat) (b:Brk),Below wr.heap.size wr w5→w5.heap.size≤G→OwnR SBk w6 54 B (.slice p n cc) (s.br ++ [b])→n=s.br.length+1→Appends w5 w6 B G (.slice bp s.br.length bc) (.slice p n cc) →
      Bld B (w6.setCell ⟨g,A.length*10+6,none⟩ (.slice p n cc)) v A { s with br:=s.br ++ [b] }:=by
 obtain⟨d1,R1,r1,lb1,h1,h2⟩:=h;have hgb:v.ownBlock=some g:=by rw[hv];rfl
 have hgl:=h1.own.lt hgb;obtain⟨g', c', e, -, -, -,hC, -, -⟩:=h1.at;rw[hv]at e;simp only[Value.slice.injEq,Option.some.injEq,Addr.mk.injEq,and_true]at e;obtain⟨rfl, -⟩:=e;have hc6:=hC.c6;rw[h2.bn]at hc6;have hbr:=h2.br;rw[h2.bn]at hbr;have hbk:(Value.slice r1.bp s.br.length r1.bc).ownBlock=lb1:=by rw[← h2.bn];exact h2.bk
 refine⟨r1.bp,r1.bc,hc6,hbr,fun e=>h1.apart g (hbk.symm.trans e) hgb,fun w5 w6 G p n cc b hb hG hO hn hap=>?_⟩
 have key:∀b,B≤b→b<wr.heap.size→lb1≠some b→w6.heap[b]?=wr.heap[b]?:=fun b _ hl hn=>(hap.far b (nll hl hb.size) (by rw[hbk];exact hn)).trans (hb.block b hl)
 have hlb' : ∀b,b<wr.heap.size→lb1≠some b→(Value.slice p n cc).ownBlock≠some b:=fun b hl hn=>hap.apart hG (nll hl hb.size) (by rw[hbk];exact hn)
 have hsz:wr.heap.size≤w6.heap.size:=Nat.le_trans hb.size hap.size;have kq:∀b,Qx B v lb1 b→b<wr.heap.size→w6.heap[b]?=wr.heap[b]?∧Qx B v (Value.slice p n cc).ownBlock b:=fun b q hl=>⟨key b q.1 hl q.2.2,q.1,q.2.1,hlb' b hl q.2.2⟩
 have hglb:lb1≠some g:=fun e=>h1.apart g e hgb
 have h1' : BR B d1 w6 v A R1 r1 (Value.slice p n cc).ownBlock:=⟨h1.hl,h1.own.blocks fun g2 e h3 h4=>key g2 h3 h4 (by rw[hgb]at e;injection e with e;rw[← e];exact hglb),fun k a b=>(h1.init k a b).change hsz kq,fun b e e2=>by
  rw[hgb]at e2
  injection e2 with e2
  exact hlb' g hgl.2 hglb (by rw[e2];exact e)⟩
 obtain⟨num,nm,rt,bp,bn,bc,least,ex,needs⟩:=r1;have p1:=h1'.put hv (i:=6) (u := .slice p n cc) (r' := ⟨num,nm,rt,p,n,cc,least,ex,needs⟩) (by omega) rfl;have hne:∀b,(Value.slice p n cc).ownBlock=some b→b≠g:=fun b e e2=>h1'.apart b e (by rw[hgb,e2])
 refine⟨d1,R1,_,_,p1,⟨h2.num,h2.nm,(h2.t.change hsz kq).change (Nat.le_of_eq (setCell_sz _ _ _).symm) fun b q _=>⟨setCell_far _ (fun e=>q.2.1 (by rw[hgb,e])) _ _,q⟩,hO.blocks fun b e _ _=>setCell_far _ (hne b e) _ _,by simp only[lap,List.length_cons,List.length_nil];omega,rfl,h2.least,h2.ex,h2.needs⟩⟩
namespace Wo
open Go.Lib
def wrd (l:List UInt8):List (List UInt8):=(pcs 32 [] l).filter (· ≠ [])
theorem wds_wrd (l:List UInt8):wds l=wrd (l.takeWhile (· != 35)):=rfl
theorem wrd_nil:wrd [] = []:=by simp[wrd,pcs]
theorem wrd_blank (l:List UInt8):wrd (32::l)=wrd l:=by
 unfold wrd;rw[pcs,if_pos rfl,List.filter_cons]
 simp
theorem wrd_blanks (n:Nat)(l:List UInt8):wrd (List.replicate n 32++l)=wrd l:=by
 induction n with
 | zero=>rfl
 | succ n ih=>rw[List.replicate_succ,List.cons_append,wrd_blank,ih]
theorem wrd_word (x l:List UInt8)(hx:x ≠ [])(h:∀c∈x,c≠32):wrd (x++32::l)=x::wrd l:=by
 unfold wrd;rw[pcs_hit 32 x l [] h,List.filter_cons,List.nil_append,if_pos (by simpa using hx)]
theorem wrd_one (x:List UInt8)(hx:x ≠ [])(h:∀c∈x,c≠32):wrd x = [x]:=by
 unfold wrd;rw[pcs_none 32 x [] h,List.nil_append,List.filter_cons,if_pos (by simpa using hx)]
 rfl
theorem word_byte {x:List UInt8}(h:wordB x=true):x ≠ []∧∀c∈x,c≠32∧c≠10∧c≠35∧plainB c=true:=by
 simp only[wordB,Bool.and_eq_true,Bool.not_eq_true', List.isEmpty_eq_false_iff,List.all_eq_true,decide_eq_true_eq]at h;refine⟨h.1,fun c hc=>?_⟩;obtain⟨⟨h1,h2⟩,h3⟩:=h.2 c hc;refine⟨?_,?_,?_,?_⟩
 ·rintro rfl;exact absurd h1 (by decide)
 ·rintro rfl;exact absurd h1 (by decide)
 ·rintro rfl;simp at h3
 ·simp only[plainB,Bool.or_eq_true,Bool.and_eq_true,decide_eq_true_eq];right;omega
theorem join_two (x y:List UInt8)(r:List (List UInt8))(sep:List UInt8):join (x::y::r) sep=x++sep++join (y::r) sep:=by
 rw[join_cons,join_cons]
 simp[joinTail,List.append_assoc]
theorem wrd_join (n m:Nat)(hn:1≤n):∀ws:List (List UInt8),(∀x∈ws,wordB x=true)→wrd (join ws (List.replicate n 32)++List.replicate m 32)=ws
 | [],_=>by
   have:=wrd_blanks m [];rw[List.append_nil]at this;rw[join_nil,List.nil_append,this,wrd_nil]
 | [x],h=>by
   have hx:=word_byte (h x List.mem_cons_self);rw[join_one]
   cases m with
   | zero=>rw[List.replicate_zero,List.append_nil,wrd_one x hx.1 fun c hc=>(hx.2 c hc).1]
   | succ m =>
     have:=wrd_blanks m [];rw[List.append_nil]at this;rw[List.replicate_succ,wrd_word x _ hx.1 (fun c hc=>(hx.2 c hc).1),this,wrd_nil]
 | x::y::r,h=>by
   have hx:=word_byte (h x List.mem_cons_self);have ih:=wrd_join n m hn (y::r) fun z hz=>h z (List.mem_cons_of_mem _ hz)
   obtain⟨k,rfl⟩:∃k,n=k+1:=⟨n - 1,by omega⟩;rw[join_two,List.append_assoc,List.append_assoc];have e:List.replicate (k+1) (32:UInt8)++(join (y::r) (List.replicate (k+1) 32)++List.replicate m 32)=32::(List.replicate k 32++(join (y::r) (List.replicate (k+1) 32)++List.replicate m 32)):=rfl;rw[e,wrd_word x _ hx.1 (fun c hc=>(hx.2 c hc).1),wrd_blanks,ih]
theorem join_mem {p:UInt8→Prop}(sep:List UInt8)(hs:∀c∈sep,p c):∀ws:List (List UInt8),(∀x∈ws,∀c∈x,p c)→∀c∈join ws sep,p c
 | [],_=>by rw[join_nil];simp
 | [x],h=>by rw[join_one];exact h x List.mem_cons_self
 | x::y::r,h=>by
   rw[join_two];intro c hc
   rcases List.mem_append.1 hc with hc|hc
   ·rcases List.mem_append.1 hc with hc|hc
    ·exact h x List.mem_cons_self c hc
    ·exact hs c hc
   ·exact join_mem sep hs (y::r) (fun z hz=>h z (List.mem_cons_of_mem _ hz)) c hc
theorem takeWhile_all {l:List UInt8}(h:∀c∈l,c≠35):l.takeWhile (· != 35)=l:=by
 have:=List.takeWhile_append_of_pos (p:=(· != 35)) (l₁:=l) (l₂ := []) (fun x hx=>by simpa using h x hx)
 simpa using this
theorem wds_line {ws:List (List UInt8)}(h:∀x∈ws,wordB x=true):wds (join ws [32])=ws:=by
 have h35:∀c∈join ws [32],c≠35:=join_mem [32] (by intro c hc;simp at hc;subst hc;decide) ws (fun x hx c hc=>((word_byte (h x hx)).2 c hc).2.2.1);rw[wds_wrd,takeWhile_all h35];have:=wrd_join 1 0 mle ws h
 simpa using this
theorem lns_text:∀LL:List (List UInt8),(∀l∈LL,∀c∈l,c≠10)→lns (LL.flatMap fun l=>l ++ [10])=LL
 | [],_=>rfl
 | l::LL,h=>by
   rw[List.flatMap_cons,List.append_assoc,List.singleton_append,lns_hit (h l List.mem_cons_self),lns_text LL fun x hx=>h x (List.mem_cons_of_mem _ hx)]
theorem count_text:∀LL:List (List UInt8),(∀l∈LL,∀c∈l,c≠10)→(LL.flatMap fun l=>l ++ [10]).count 10=LL.length
 | [],_=>rfl
 | l::LL,h=>by
   rw[List.flatMap_cons,List.count_append,List.count_append,count_text LL fun x hx=>h x (List.mem_cons_of_mem _ hx)];have:l.count 10=0:=List.count_eq_zero.2 fun hm=>h l List.mem_cons_self 10 hm rfl
   rw[this]
   simp
   omega
theorem sErr_text {LL:List (List UInt8)}(h10:∀l∈LL,∀c∈l,c≠10)(hp:∀l∈LL,∀c∈l,plainB c=true)(h4:LL.length≤400)(hl:(LL.flatMap fun l=>l ++ [10]).length≤16384):sErr (LL.flatMap fun l=>l ++ [10])=0:=by
 unfold sErr;rw[if_neg (by rw[count_text LL h10];omega),if_neg];rintro (⟨h1,h2⟩|h2)
 ·apply h2
  rcases List.eq_nil_or_concat LL with e|⟨A,l,e⟩
  ·rw[e]at h1;exact absurd rfl h1
  ·rw[e,List.concat_eq_append,List.flatMap_append]
   simp
 ·have:(LL.flatMap fun l=>l ++ [10]).all plainB=true:=by
   rw[List.all_eq_true];intro c hc;obtain⟨l,hl,hc⟩:=List.mem_flatMap.1 hc
   rcases List.mem_append.1 hc with hc|hc
   ·exact hp l hl c hc
   ·simp at hc;subst hc;decide
  rw[this]at h2;cases h2
theorem plain_of_word {x:List UInt8}(h:wordB x=true):∀c∈x,plainB c=true:=fun c hc=>((word_byte h).2 c hc).2.2.2
theorem back {LL:List (List (List UInt8))}(h:∀ws∈LL,∀x∈ws,wordB x=true)(h4:LL.length≤400)(hl:(jText LL).length≤16384):jErr LL=0∧jOut LL=jText LL∧sErr (jText LL)=0∧sList (jText LL)=LL:=by
 have hall:(LL.all fun ws=>ws.all wordB)=true:=by
  rw[List.all_eq_true];intro ws hw;rw[List.all_eq_true];exact h ws hw
 have e0:jErr LL=0:=by unfold jErr;rw[if_neg (by omega),if_neg (by rw[hall];simp),if_neg (by omega)]
 have et:jText LL=(LL.map fun ws=>join ws [32]).flatMap fun l=>l ++ [10]:=by
  unfold jText;rw[List.flatMap_map];rfl
 have h10:∀l∈LL.map (fun ws=>join ws [32]),∀c∈l,c≠10:=by
  intro l hl;obtain⟨ws,hw,rfl⟩:=List.mem_map.1 hl;exact join_mem [32] (by intro c hc;simp at hc;subst hc;decide) ws (fun x hx c hc=>((word_byte (h ws hw x hx)).2 c hc).2.1)
 have hp:∀l∈LL.map (fun ws=>join ws [32]),∀c∈l,plainB c=true:=by
  intro l hl;obtain⟨ws,hw,rfl⟩:=List.mem_map.1 hl;exact join_mem [32] (by intro c hc;simp at hc;subst hc;decide) ws (fun x hx=>plain_of_word (h ws hw x hx))
 have es:sErr (jText LL)=0:=by
  rw[et]at hl ⊢;exact sErr_text h10 hp (by rw[List.length_map];exact h4) hl
 refine⟨e0,by unfold jOut;rw[if_pos e0],es,?_⟩
 unfold sList;rw[if_pos es,et,lns_text _ h10,List.map_map];have:∀ws∈LL,(wds ∘ fun ws=>join ws [32]) ws=ws:=fun ws hw=>wds_line (h ws hw)
 rw[List.map_congr_left this,List.map_id']
end Wo
def lb (LL:List (List ByteArray)):List (List (List UInt8)):=LL.map fun ws=>ws.map (·.data.toList)
def JoinGive (LL:List (List ByteArray)) (w:World) (e:Ending) (w' : World):Prop :=
 e = .returned (.tuple #[.string ⟨(Wo.jOut (lb LL)).toArray⟩,I O (Wo.jErr (lb LL))])∧Below w.heap.size w w'
theorem ret_si {a b:ByteArray}{c d:Int}(h:a=b)(k:c=d):Ending.returned (.tuple #[.string a,I O c]) = .returned (.tuple #[.string b,I O d]):=by rw[h,k]
theorem join_bad {LL:List (List ByteArray)}{er:Int}(h:Wo.jErr (lb LL)=er)(hne:er≠0)(w w' : World)(hb:Below w.heap.size w w'):JoinGive LL w (.returned (.tuple #[.string ⟨#[]⟩,I O er])) w' :=
 ⟨ret_si (by unfold Wo.jOut;rw[if_neg (by rw[h];exact hne)]) h.symm,hb⟩
theorem lb_len (LL:List (List ByteArray)):(lb LL).length=LL.length:=by unfold lb;rw[List.length_map]
theorem lb_take (LL:List (List ByteArray))(k:Nat):lb (LL.take k)=(lb LL).take k:=by unfold lb;rw[List.map_take]
theorem lb_snoc (LL:List (List ByteArray))(k:Nat)(h:k<LL.length):lb (LL.take (k+1))=lb (LL.take k) ++ [LL[k].map (·.data.toList)]:=by
 unfold lb;rw[tsg h,List.map_append];rfl
theorem jText_take (LL:List (List (List UInt8)))(k:Nat):(Wo.jText (LL.take k)).length≤(Wo.jText LL).length:=by
 conv=>rhs;rw[← List.take_append_drop k LL]
 unfold Wo.jText;rw[List.flatMap_append,lap];omega
theorem jErr_bad {LL:List (List ByteArray)}(h4:LL.length≤400){ws:List ByteArray}(hw:ws∈LL){y:ByteArray}(hy:y∈ws)(h:Wo.wordB y.data.toList=false):Wo.jErr (lb LL)=4:=by
 unfold Wo.jErr;rw[if_neg (by rw[lb_len];omega),if_pos];rw[Bool.eq_false_iff];intro ha;rw[List.all_eq_true]at ha;have h1:=ha (ws.map (·.data.toList)) (by unfold lb;exact List.mem_map.2 ⟨ws,hw,rfl⟩);rw[List.all_eq_true]at h1;have h2:=h1 y.data.toList (List.mem_map.2 ⟨y,hy,rfl⟩);rw[h]at h2
 cases h2
theorem jErr_long {LL:List (List ByteArray)}(h:400<LL.length):Wo.jErr (lb LL)=1:=by unfold Wo.jErr;rw[if_pos (by rw[lb_len];exact h)]
def okB (c:UInt8):Bool:=decide (33≤(c.toNat:Int))&&decide ((c.toNat:Int)≤126) && !(c==35)
theorem wordB_eq (l:List UInt8):Wo.wordB l=(!l.isEmpty&&l.all okB):=rfl
def JnGive (ws:List ByteArray) (w:World) (e:Ending) (w' : World):Prop:=e = .returned (.string ⟨(Lib.join (ws.map (·.data.toList)) [32]).toArray⟩)∧Below w.heap.size w w'
theorem join32_any (q:Option Addr)(ws:List ByteArray)(c:Nat)(w:World)(h:Recs SB w q ws)(hc:ws.length≤c)(hl:(Lib.join (ws.map (·.data.toList)) [32]).length≤140737488355328)(hn:ws.length≤140737488355328) :
  Calls Tryz.prog 61 #[.slice q ws.length c,.string ⟨#[32]⟩] w (JnGive ws w):=by
 rcases h.2 with e|⟨b,off,rfl,hb,hcell⟩
 ·subst e
  exact(Tryz.strings_Join_none q c ⟨#[32]⟩ w).mono fun e w' ⟨he,hw⟩=>⟨he,hw▸brf _ _⟩
 ·exact(Tryz.strings_Join b off c ws ⟨#[32]⟩ w (fun j x hx=>hcell j _ (by rw[flat_str,List.getElem?_map,hx];rfl)) hb hn hc hl).mono fun e w' ⟨he,hw⟩=>⟨he,hw⟩
namespace Cr
open Go.Lib
theorem name_word {l:List UInt8}(h:Wo.nameB l=true):Wo.wordB l=true∧l.length≤12:=by
 unfold Wo.nameB at h;simp only[Bool.and_eq_true,decide_eq_true_eq]at h;obtain⟨h1,h2,h3⟩:=h;refine⟨?_,h3⟩;unfold Wo.wordB;rw[Bool.and_eq_true,List.all_eq_true];have key:∀c∈l,Wo.letB c=true∨Wo.digB c=true:=by
  cases l with
  | nil=>intro c hc;cases hc
  | cons a r =>
    unfold Wo.headB at h1;simp only[Bool.and_eq_true,List.all_eq_true,Bool.or_eq_true]at h1;intro c hc
    rcases List.mem_cons.1 hc with rfl|hc
    ·exact .inl h1.1
    ·exact h1.2 c hc
 refine⟨by cases l with|nil=>simp at h2|cons a r=>rfl,fun c hc=>?_⟩
 rcases key c hc with hk|hk
 ·simp only[Wo.letB,Bool.and_eq_true,decide_eq_true_eq]at hk
  have:¬c=35:=by rintro rfl;revert hk;decide
  simp only[Bool.and_eq_true,decide_eq_true_eq,Bool.not_eq_true', beq_eq_false_iff_ne];exact⟨⟨by omega,by omega⟩,this⟩
 ·simp only[Wo.digB,Bool.and_eq_true,decide_eq_true_eq]at hk
  have:¬c=35:=by rintro rfl;revert hk;decide
  simp only[Bool.and_eq_true,decide_eq_true_eq,Bool.not_eq_true', beq_eq_false_iff_ne];exact⟨⟨by omega,by omega⟩,this⟩
theorem mark_word:∀m:Nat,m<32→Wo.wordB (mword m)=true∧(mword m).length≤5:=by decide +kernel
end Cr
namespace Sc
open Go.Lib Te Cr
theorem one_parts {s:Sch}(h:one17 s=0):0≤s.num∧s.num≤15∧0≤s.least∧s.least≤268435456∧chkT s.cond=0∧brB s.br=true∧(0≤s.ex∧s.ex<65536)∧Wo.nameB s.nm.data.toList=true:=by
 unfold one17 at h
 split at h
 ·cases h
 rename_i g1
 split at h
 ·cases h
 rename_i g2
 split at h
 ·rename_i h1;exact absurd h h1
 rename_i g3
 split at h
 ·cases h
 rename_i g4
 refine⟨by omega,by omega,by omega,by omega,by omega,?_,⟨by omega,by omega⟩,by simpa using g2⟩
 cases e:brB s.br
 ·exact absurd (.inl e) g4
 ·rfl
theorem brB_len {l:List Brk}(h:brB l=true):1≤l.length∧l.length≤6:=by
 unfold brB at h;rw[Bool.and_eq_true,Bool.and_eq_true,decide_eq_true_eq,decide_eq_true_eq]at h;exact h.2
theorem brB_all {l:List Brk}(h:brB l=true):brAll l l.length=true:=by
 unfold brB at h;rw[Bool.and_eq_true]at h;exact h.1
theorem br_right {l:List Brk}{k:Nat}(hk:k<l.length)(h:brAll l (k+1)=true):upB l k<l[k].up∧l[k].up≤268435456∧0≤l[k].rate∧l[k].rate≤1048576∧0≤upB l k:=by
 have h2:=h;rw[brAll_succ,Bool.and_eq_true]at h2;have h3:=h2.2;rw[brAt_some hk,Bool.and_eq_true,Bool.and_eq_true,Bool.and_eq_true,decide_eq_true_eq,decide_eq_true_eq,decide_eq_true_eq,decide_eq_true_eq]at h3;exact⟨h3.1,h3.2.1,h3.2.2.1,h3.2.2.2,upB_nonneg (by omega) h2.1⟩
theorem br_each {l:List Brk}(h:brB l=true):∀b∈l,0≤b.up∧b.up≤268435456∧0≤b.rate∧b.rate≤1048576:=by
 intro b hb;obtain⟨k,hk,rfl⟩:=List.mem_iff_getElem.1 hb;obtain⟨h1,h2,h3,h4,h5⟩:=br_right hk (brAll_mono (by omega) (brB_all h));exact⟨by omega,h2,h3,h4⟩
/-! ### words -/
theorem dig_byte {c:UInt8}(h:Wo.digB c=true):(decide (33≤(c.toNat:Int))&&decide ((c.toNat:Int)≤126) && !(c==35))=true:=by
 unfold Wo.digB at h;rw[Bool.and_eq_true,decide_eq_true_eq,decide_eq_true_eq]at h;rw[Bool.and_eq_true,Bool.and_eq_true,decide_eq_true_eq,decide_eq_true_eq,Bool.not_eq_true', beq_eq_false_iff_ne];refine⟨⟨by omega,by omega⟩,fun e=>?_⟩;subst e;have:((35:UInt8).toNat:Int)=35:=rfl;omega
theorem itoa_word {n:Int}(h:0≤n):Wo.wordB (itoa n)=true:=by
 obtain⟨u,rfl⟩:=Int.eq_ofNat_of_zero_le h;have e:itoa (u:Int)=decDigits u:=by unfold itoa;simp
 rw[e];unfold Wo.wordB;rw[Bool.and_eq_true,Bool.not_eq_true', List.isEmpty_eq_false_iff];refine⟨Wo.decDigits_ne u,List.all_eq_true.2 fun c hc=>dig_byte (List.all_eq_true.1 (Wo.decDigits_digs u) c hc)⟩
theorem opW_word:∀o:Int,1≤o→o≤11→Wo.wordB (opW o)=true:=by
 intro o h1 h2;have:o=1∨o=2∨o=3∨o=4∨o=5∨o=6∨o=7∨o=8∨o=9∨o=10∨o=11:=by omega
 rcases this with rfl|rfl|rfl|rfl|rfl|rfl|rfl|rfl|rfl|rfl|rfl<;>decide
theorem mword_word {m:Int}(h:single m=true):Wo.wordB (mword m.toNat)=true:=by
 have h2:m=1∨m=2∨m=4∨m=8∨m=16:=by unfold single at h;simp only[Bool.or_eq_true,beq_iff_eq]at h;omega
 exact(mark_word m.toNat (by omega)).1
mutual
theorem textW_words:∀t:Tm,form t=true→∀x∈textW t,Wo.wordB x=true
 | .mk o n m K=>fun h x hx=>by
   obtain⟨o1,o2⟩:=form_op h;have hw:=opW_word o o1 o2;rw[form,Bool.and_eq_true]at h;have hL:=textL_words K h.2;have hs:=h.1;rw[textW]at hx
   rcases List.mem_cons.1 hx with rfl|hx
   ·exact hw
   by_cases h1:o=1
   ·rw[if_pos h1]at hx;cases hx
   rw[if_neg h1]at hx
   by_cases h4:o=4
   ·subst h4
    simp[selfB]at hs
    rw[if_pos rfl,List.mem_singleton]at hx;subst hx;exact mword_word hs.1.1
   rw[if_neg h4]at hx
   by_cases h7:o=7
   ·subst h7
    simp[selfB]at hs
    rw[if_pos rfl,List.mem_cons,List.mem_singleton]at hx
    rcases hx with rfl|rfl
    ·exact itoa_word (by omega)
    ·exact mword_word hs.1.2
   rw[if_neg h7]at hx
   by_cases h11:o=11
   ·rw[if_pos h11]at hx
    exact hL x hx
   rw[if_neg h11]at hx
   by_cases h9:o=9∨o=10
   ·rw[if_pos h9,List.mem_cons,List.mem_append,List.mem_singleton]at hx
    rcases hx with rfl|hx|rfl
    ·decide
    ·exact hL x hx
    ·decide
   rw[if_neg h9,List.mem_singleton]at hx;subst hx;have hb:0≤n:=by
    unfold selfB at hs
    repeat' split at hs
    all_goals first|omega|(simp at hs)|(cases hs)
    all_goals omega
   exact itoa_word hb
theorem textL_words:∀K:List Tm,formL K=true→∀x∈textL K,Wo.wordB x=true
 | [],_=>fun x hx=>by rw[textL]at hx;cases hx
 | k::r,h=>fun x hx=>by
   rw[formL,Bool.and_eq_true]at h;rw[textL]at hx
   rcases List.mem_append.1 hx with hx|hx
   ·exact textW_words k h.1 x hx
   ·exact textL_words r h.2 x hx
end
theorem head_words {s:Sch}(h:one17 s=0):∀x∈headW s,Wo.wordB x=true:=by
 obtain⟨h1,h2,h3,h4, -, -, -,h8⟩:=one_parts h;intro x hx;unfold headW at hx
 rcases List.mem_append.1 hx with hx|hx
 ·simp only[List.mem_cons,List.not_mem_nil,or_false]at hx
  rcases hx with rfl|rfl|rfl|rfl
  ·decide
  ·exact itoa_word h1
  ·exact(name_word h8).1
  ·exact itoa_word h3
 ·split at hx
  ·rw[List.mem_singleton]at hx;subst hx;decide
  ·cases hx
theorem nots_words (x:Int)(n:Nat):∀ws∈notsTo x n,∀y∈ws,Wo.wordB y=true:=by
 intro ws hws y hy;unfold notsTo at hws;obtain⟨i, -,hi⟩:=List.mem_flatMap.1 hws
 split at hi
 ·rw[List.mem_singleton]at hi
  subst hi;simp only[List.mem_cons,List.not_mem_nil,or_false]at hy
  rcases hy with rfl|rfl
  ·decide
  ·exact itoa_word (inn i)
 ·cases hi
theorem linesS_words {s:Sch}(h:one17 s=0):∀ws∈linesS s,∀y∈ws,Wo.wordB y=true:=by
 obtain⟨-, -, -, -,h5,h6, -, -⟩:=one_parts h;intro ws hws y hy;unfold linesS at hws
 rcases List.mem_cons.1 hws with rfl|hws
 ·exact head_words h y hy
 rcases List.mem_cons.1 hws with rfl|hws
 ·rcases List.mem_cons.1 hy with rfl|hy
  ·decide
  ·exact textW_words s.cond (chkT_ok h5).2.2 y hy
 rcases List.mem_append.1 hws with hws|hws
 ·obtain⟨b,hb,rfl⟩:=List.mem_map.1 hws
  obtain⟨b1, -,b3, -⟩:=br_each h6 b hb;simp only[rateW,List.mem_cons,List.not_mem_nil,or_false]at hy
  rcases hy with rfl|rfl|rfl
  ·decide
  ·exact itoa_word b1
  ·exact itoa_word b3
 ·exact nots_words _ _ ws hws y hy
/-! ### how long -/
theorem jText_append (A B:List (List (List UInt8))):Wo.jText (A++B)=Wo.jText A++Wo.jText B:=List.flatMap_append
theorem jText_cons (a:List (List UInt8))(B:List (List (List UInt8))):Wo.jText (a::B)=Wo.lineT a++Wo.jText B:=rfl
theorem head_len {s:Sch}(h:one17 s=0):(Wo.lineT (headW s)).length≤60:=by
 obtain⟨h1,h2,h3,h4, -, -, -,h8⟩:=one_parts h;have a1:=itoa_le (n:=s.num) h1 (k:=9) (by omega) (by omega);have a2:=itoa_le (n:=s.least) h3 (k:=9) (by omega) (by omega);have a3:=(name_word h8).2;unfold headW
 cases s.needs<;>simp[Wo.lineT,Wo.join_two,Lib.join_one,wScheme,wEnt]at a3 ⊢<;>omega
theorem cond_len {t:Tm}(h:chkT t=0):(Wo.lineT (wIf::textW t)).length≤490:=by
 obtain⟨h1, -,h3⟩:=chkT_ok h;have a:=tS_len t h3;rw[tS_join]at a;obtain⟨x,r,e⟩:∃x r,textW t=x::r:=by cases t;exact⟨_,_,by rw[textW]⟩
 rw[e]at a ⊢;unfold Wo.lineT;rw[Wo.join_two];simp only[lap,List.length_cons,List.length_nil,wIf];omega
theorem rate_len {b:Brk}(h:0≤b.up∧b.up≤268435456∧0≤b.rate∧b.rate≤1048576):(Wo.lineT (rateW b)).length≤30:=by
 have a1:=itoa_le (n:=b.up) h.1 (k:=9) (by omega) (by omega);have a2:=itoa_le (n:=b.rate) h.2.2.1 (k:=9) (by omega) (by omega);simp only[Wo.lineT,rateW,Wo.join_two,Lib.join_one,lap,List.length_cons,List.length_nil,wRate];omega
theorem rates_len:∀l:List Brk,(∀b∈l,0≤b.up∧b.up≤268435456∧0≤b.rate∧b.rate≤1048576)→(Wo.jText (l.map rateW)).length≤30*l.length
 | [],_=>by simp[Wo.jText]
 | b::r,h=>by
   have h1:=rate_len (h b List.mem_cons_self);have h2:=rates_len r fun x hx=>h x (List.mem_cons_of_mem _ hx)
   rw[List.map_cons,jText_cons,lap,List.length_cons];omega
theorem nots_len (x:Int):∀n:Nat,n≤16→(Wo.jText (notsTo x n)).length≤7*n∧(notsTo x n).length≤n
 | 0,_=>by simp[Wo.jText,notsTo]
 | n+1,h=>by
   obtain⟨h1,h2⟩:=nots_len x n (by omega);rw[notsTo_succ,jText_append,lap,lap];have a:=itoa_le (n:=(n:Int)) (by omega) (k:=2) (by omega) (by omega)
   split
   ·have:(Wo.jText [[wNot,itoa (n:Int)]]).length≤7:=by
     simp only[Wo.jText,List.flatMap_cons,List.flatMap_nil,Wo.lineT,Wo.join_two,Lib.join_one,lap,List.length_cons,List.length_nil,wNot];omega
    simp only[List.length_cons,List.length_nil];omega
   ·simp[Wo.jText]at h1 ⊢
    omega
theorem linesS_len {s:Sch}(h:one17 s=0):(Wo.jText (linesS s)).length≤850∧(linesS s).length≤24:=by
 obtain⟨-, -, -, -,h5,h6, -, -⟩:=one_parts h;have a1:=head_len h;have a2:=cond_len h5;have a3:=rates_len s.br (br_each h6);have a4:=brB_len h6;obtain⟨a5,a6⟩:=nots_len s.ex 16 (by omega);unfold linesS;rw[jText_cons,jText_cons,jText_append];simp only[lap,List.length_cons,List.length_map];omega
theorem linesL_len:∀L:List Sch,(∀s∈L,one17 s=0)→(Wo.jText (linesL L)).length≤850*L.length∧(linesL L).length≤24*L.length
 | [],_=>by simp[Wo.jText,linesL]
 | s::L,h=>by
   have h1:=linesS_len (h s List.mem_cons_self);have h2:=linesL_len L fun x hx=>h x (List.mem_cons_of_mem _ hx)
   have e:linesL (s::L)=linesS s++linesL L:=rfl;rw[e,jText_append,lap,lap,List.length_cons];omega
theorem lineS_short {s:Sch}(h:one17 s=0):∀ws∈linesS s,ws.length≤1099511627776:=by
 obtain⟨-, -, -, -,h5, -, -, -⟩:=one_parts h;obtain⟨c1, -,c3⟩:=chkT_ok h5;have ht:=textW_len c3;intro ws hws;unfold linesS at hws
 rcases List.mem_cons.1 hws with rfl|hws
 ·unfold headW;cases s.needs<;>simp
 rcases List.mem_cons.1 hws with rfl|hws
 ·rw[List.length_cons];omega
 rcases List.mem_append.1 hws with hws|hws
 ·obtain⟨b, -,rfl⟩:=List.mem_map.1 hws
  simp[rateW]
 ·unfold notsTo at hws
  obtain⟨i, -,hi⟩:=List.mem_flatMap.1 hws
  split at hi
  ·rw[List.mem_singleton]at hi;subst hi;simp
  ·cases hi
theorem law_back {L:List Sch}(h:∀s∈L,one17 s=0)(hl:L.length≤16):Wo.jErr (linesL L)=0∧Wo.jOut (linesL L)=Wo.jText (linesL L)∧Wo.sErr (Wo.jText (linesL L))=0∧Wo.sList (Wo.jText (linesL L))=linesL L :=
 Wo.back (fun ws hw x hx=>by
  obtain⟨s,hs,hw⟩:=List.mem_flatMap.1 hw
  exact linesS_words (h s hs) ws hw x hx) (by have:=(linesL_len L h).2;omega) (by have:=(linesL_len L h).1;omega)
/-! ### reading -/
theorem onLast_snoc (A:List Sch)(s:Sch)(f:Sch→Sch):onLast (A ++ [s]) f=A ++ [f s]:=by
 unfold onLast;rw[List.reverse_append];simp
theorem fst_isNone {f:Nat→Int}{n:Nat}(h:fst f n=none):∀j,j<n→f j=0:=by
 intro j hj;unfold fst at h;have:=List.find?_eq_none.1 h j (List.mem_range.2 hj)
 simpa using this
structure LawOk (L:List Sch):Prop where
 len:L.length≤16
 one:∀s∈L,one17 s=0
 asc:∀i j (hi:i<L.length) (hj:j<L.length),i<j→L[i].num<L[j].num
 mtl:∀s∈L,mutual17 L s=true
theorem lawOk {L:List Sch}(h:chk17 L=(-1,0)):LawOk L:=by
 unfold chk17 at h
 by_cases h16:16<L.length
 ·rw[if_pos h16]at h;cases h
 rw[if_neg h16]at h;have hA:fst (errA L) L.length=none:=by
  cases e:fst (errA L) L.length with
  | none=>rfl
  | some i=>rw[e]at h;simp only[Prod.mk.injEq]at h;omega
 rw[hA]at h;simp only at h;have hB:fst (errB L) L.length=none:=by
  cases e:fst (errB L) L.length with
  | none=>rfl
  | some i=>rw[e]at h;simp only[Prod.mk.injEq]at h;omega
 have kA:=fst_isNone hA;have kB:=fst_isNone hB;have one:∀i (hi:i<L.length),one17 L[i]=0∧twice L i L[i]=false:=fun i hi=>by
  have:=kA i hi;unfold errA at this;rw[List.getElem?_eq_getElem hi]at this;simp only at this
  split at this
  ·rename_i h1;exact absurd this h1
  ·rename_i h1
   split at this
   ·cases this
   ·rename_i h2
    exact⟨Decidable.not_not.1 h1,by simpa using h2⟩
 have step:∀i (hi:i+1<L.length),L[i].num<L[i+1].num:=fun i hi=>by
  have:=(one (i+1) hi).2;unfold twice at this;rw[Bool.or_eq_false_iff]at this;have h1:=this.1;simp only at h1;rw[List.getElem?_eq_getElem (by omega)]at h1;simp only[decide_eq_false_iff_not]at h1;omega
 refine⟨by omega,fun s hs=>?_,fun i j hi hj hij=>?_,fun s hs=>?_⟩
 ·obtain⟨i,hi,rfl⟩:=List.mem_iff_getElem.1 hs
  exact(one i hi).1
 ·obtain⟨k,rfl⟩:∃k,j=i+1+k:=⟨j - (i+1),by omega⟩
  clear hij
  induction k with
  | zero=>exact step i hj
  | succ k ih =>
    have h1:=ih (by omega);have h2:=step (i+1+k) hj;exact Int.lt_trans h1 h2
 ·obtain⟨i,hi,rfl⟩:=List.mem_iff_getElem.1 hs
  have:=kB i hi;unfold errB at this;rw[List.getElem?_eq_getElem hi]at this;simp only at this
  split at this
  ·assumption
  ·cases this
/-! ### rates that do not rise -/
end Sc
structure LwR (B d:Nat) (wr:World) (v:Value) (R:List RSx) (L:List Sch):Prop where
 hl:R.length=L.length
 own:OwnR SSc wr 31 B v R
 rows:∀k (h:k<R.length) (h' : k<L.length),SV (Qx B v none) wr d R[k] L[k]
def LwAt (B:Nat) (wr:World) (v:Value) (L:List Sch):Prop:=∃d R,LwR B d wr v R L
theorem LwAt.nil (B:Nat)(wr:World):LwAt B wr (.slice none 0 0) []:=⟨0, [],rfl,OwnR.nil _ _ _,fun k h=>by simp at h⟩
theorem LwR.blocks {B d:Nat}{wr w' : World}{v:Value}{R:List RSx}{L:List Sch}(h:LwR B d wr v R L)(hs:wr.heap.size≤w'.heap.size)(hb:∀b,B≤b→b<wr.heap.size→w'.heap[b]?=wr.heap[b]?):LwR B d w' v R L :=
 ⟨h.hl,h.own.blocks fun g _ h3 h4=>hb g h3 h4,fun k a b=>(h.rows k a b).change hs fun b q hl=>⟨hb b q.1 hl,q⟩⟩
theorem LwAt.blocks {B:Nat}{wr w' : World}{v:Value}{L:List Sch}(h:LwAt B wr v L)(hs:wr.heap.size≤w'.heap.size)(hb:∀b,B≤b→b<wr.heap.size→w'.heap[b]?=wr.heap[b]?):LwAt B w' v L:=by
 obtain⟨d,R,h⟩:=h;exact⟨d,R,h.blocks hs hb⟩
theorem LwAt.below {B:Nat}{wr w' : World}{v:Value}{L:List Sch}(h:LwAt B wr v L)(hb:Below wr.heap.size wr w'):LwAt B w' v L:=h.blocks hb.size fun b _ hl=>hb.block b hl
theorem LwAt.but {B t:Nat}{wr w' : World}{v:Value}{L:List Sch}(h:LwAt B wr v L)(hb:But t wr w')(ht:t<B):LwAt B w' v L:=h.blocks hb.size fun b h1 hl=>hb.block b hl (by omega)
theorem LwR.push {B d d' t G:Nat}{wr w5 w6:World}{v v6:Value}{R:List RSx}{L:List Sch}{r:RSx}{s:Sch}(h:LwR B d wr v R L)(hB:B≤wr.heap.size)(hb:But t wr w5)(ht:t<B)(hG:w5.heap.size≤G)(hv:SV (NewQ wr.heap.size) w5 d' r s)
  (hO:OwnR SSc w6 31 B v6 (R ++ [r])) (hap:Appends w5 w6 B G v v6):LwAt B w6 v6 (L ++ [s]):=by
 have hsz:wr.heap.size≤w6.heap.size:=Nat.le_trans hb.size hap.size;refine⟨max d d', R ++ [r],by rw[lap,lap,h.hl];rfl,hO,fun k a b=>?_⟩
 by_cases hlt:k<R.length
 ·rw[List.getElem_append_left hlt,List.getElem_append_left (by rw[← h.hl];exact hlt)]
  refine((h.rows k hlt (by rw[← h.hl];exact hlt)).change hsz fun b q hl=>?_).deep (Nat.le_max_left _ _)
  have hl5:=nll hl hb.size;exact⟨(hap.far b hl5 q.2.1).trans (hb.block b hl (by have:=q.1;omega)),q.1,hap.apart hG hl5 q.2.1,fun e=>by cases e⟩
 ·have ek:k=R.length:=by rw[lap]at a;simp at a;omega
  subst ek;rw[List.getElem_append_right mle,List.getElem_append_right (by rw[h.hl];exact Nat.le_refl _)];simp only[Nat.sub_self,h.hl,List.getElem_cons_zero];refine(hv.change hap.size fun b q hl=>?_).deep (Nat.le_max_right _ _);have hn:v.ownBlock≠some b:=fun e=>by have:=(h.own.lt e).2;unfold NewQ at q;omega
  exact⟨hap.far b hl hn,by unfold NewQ at q;omega,hap.apart hG hl hn,fun e=>by cases e⟩
theorem LwAt.at {B:Nat}{wr:World}{v:Value}{L:List Sch}(h:LwAt B wr v L){k:Nat}(hk:k<L.length) :
  ∃g c r,v = .slice (some ⟨g,0,none⟩) L.length c∧L.length≤c∧B≤g∧g<wr.heap.size∧SCells wr g (k*10) r∧r.num=L[k].num∧r.ex=L[k].ex∧(∀i,wr.frozen? ⟨g,i,none⟩=false) ∧
    ∀x,LwAt B (wr.setCell ⟨g,k*10+8,none⟩ (I O x)) v (L.set k { L[k] with ex:=x }):=by
 obtain⟨d,R,h⟩:=h;have hk' : k<R.length:=by rw[h.hl];exact hk
 obtain⟨p,c,e, -, -,hc, -, -⟩:=h.own.cut h.hl;have ho:=h.own;rw[e]at ho;obtain⟨g,eg,hn,hB,hg,hcl,hf,hs⟩:=ho.at hk'; have hk10:SSc.k=10:=rfl;rw[hk10]at hcl hs;have hrow:=h.rows k hk' hk;refine⟨g,c,R[k],by rw[e,eg],hc,hB,hg,⟨hcl 0 _ rfl,hcl 1 _ rfl,hcl 2 _ rfl,hcl 3 _ rfl,hcl 4 _ rfl,hcl 5 _ rfl,hcl 6 _ rfl,hcl 7 _ rfl,hcl 8 _ rfl,hcl 9 _ rfl⟩,hrow.num,hrow.ex,hf,fun x=>?_⟩;have ho2:=hs 8 (I O x) { R[k] with ex:=x } (by omega) rfl;have key:∀b,Qx B v none b→b<wr.heap.size→(wr.setCell ⟨g,k*10+8,none⟩ (I O x)).heap[b]?=wr.heap[b]?∧Qx B v none b:=fun b q _=>⟨setCell_far _ (fun e2=>q.2.1 (by rw[e,eg,e2];rfl)) _ _,q⟩
 refine⟨d,R.set k { R[k] with ex:=x },by rw[List.length_set,List.length_set,h.hl],by rw[e];exact ho2,fun j a b=>?_⟩
 rw[List.length_set]at a b;have hz:wr.heap.size≤(wr.setCell ⟨g,k*10+8,none⟩ (I O x)).heap.size:=by rw[setCell_sz];exact Nat.le_refl _
 rw[List.getElem_set,List.getElem_set]
 by_cases ej:k=j
 ·subst ej
  rw[if_pos rfl,if_pos rfl];have:=hrow.change hz key;exact⟨this.num,this.nm,this.t,this.br,this.bn,this.bc,this.bz,this.bq,this.least,rfl,this.needs⟩
 ·rw[if_neg ej,if_neg ej]
  exact(h.rows j a b).change hz key
theorem LwAt.ss {B:Nat}{wr:World}{v:Value}{L:List Sch}(h:LwAt B wr v L){n:Nat}(hn:L.length=n):∃p c d,v = .slice p n c∧n≤c∧(p=none→c=0)∧SsAt (fun b=>B≤b) wr d p L:=by
 obtain⟨d,R,h⟩:=h;obtain⟨p,c,e,h1,h2,h3, -,h5⟩:=h.own.cut (h.hl.trans hn);exact⟨p,c,d,e,h3,fun e=>(h1 e).1,⟨R,h.hl,h5,fun k a b=>(h.rows k a b).change mle fun b q _=>⟨rfl,q.1⟩⟩,fun a ea => .inr (h2 a ea).2.2.1⟩
structure SmallS (s:Sch):Prop where
 nm:s.nm.size≤40
 ct:count s.cond<8
 n0:0≤s.num
 n3:s.num≤3
theorem SmallS.put {L:List Sch}(h:∀s∈L,SmallS s){k:Nat}(hk:k<L.length)(x:Int):∀s∈L.set k { L[k] with ex:=x },SmallS s:=by
 intro s hs
 rcases List.mem_or_eq_of_mem_set hs with hs|rfl
 ·exact h s hs
 ·have:=h L[k] (List.getElem_mem hk)
  exact⟨this.nm,this.ct,this.n0,this.n3⟩
def LawGive (t:Nat) (l:List Int) (most:Nat) (w:World) (e:Ending) (w' : World):Prop :=
 ∃(v:Value) (L:List Sch) (q:Nat),e = .returned v∧LwAt w.heap.size w' v L∧chk17 L=(-1,0)∧L.length≤most∧(∀s∈L,SmallS s)∧TapeAt w' t l q∧But t w w'
end Go.Proofs.YtbcmabolkkfgfaaGreatDoor
