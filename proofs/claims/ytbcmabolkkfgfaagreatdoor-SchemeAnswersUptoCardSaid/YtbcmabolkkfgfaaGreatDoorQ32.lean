/- Packed. -/
import Derived.Test.YtbcmabolkkfgfaaGreatDoorQ31
namespace Go.Proofs.YtbcmabolkkfgfaaGreatDoor
open Go.RowKit Go.Deep Go.ChangeShapes Go.WideShapes Te Sc
structure Meas {H:Type} (mu:DataW H→Nat):Prop where
 s:∀l r,(l.map mu).sum+1≤mu (.slice l r)
 a:∀l,(l.map mu).sum+1≤mu (.agg l)
theorem sum_mem {α:Type}{f:α→Nat}:∀{l:List α} {d:α},d∈l→f d≤(l.map f).sum
 | a::l,d,h=>by
   rw[List.map_cons,List.sum_cons]
   rcases List.mem_cons.1 h with rfl|h
   ·omega
   ·have:=sum_mem (f:=f) h;omega
section
variable {H:Type} {enc:TypeId × Value→H} {P:Program} {W:World} {base:Nat} {spare:Nat→Bool} {held:Bool} {mu:DataW H→Nat}
theorem open_rowsD (hmu:Meas mu){α β:Type} [Inhabited α] [Inhabited β] {S:Shape α} {Rel:α→β→DataW H→Prop} {t e:TypeId} {fuel:Nat} {a:Option Addr} {len cap:Nat} {x:DataW H × List MemPlace}
  (ht:P.underlying t=some (.slice e)) (ce:P.cellsOf e=S.k)
  (hel:∀(n:Nat) (cs:List Value) (y:DataW H × List MemPlace),cs.length=S.k→mu y.1<mu x.1→DataW.trod enc P W base spare held n e cs=some y→∃r z,cs=S.cells r∧Rel r z y.1)
  (h:DataW.trod enc P W base spare held fuel t [.slice a len cap]=some x):∃(R:List α) (L:List β) (Ds:List (DataW H)),R.length=len∧L.length=len∧Ds.length=len∧Recs S W a R∧(∀k (h1:k<R.length) (h2:k<L.length) (h3:k<Ds.length),Rel R[k] L[k] Ds[k])∧len≤cap∧(a=none→cap=0)∧(Ds.map mu).sum≤mu x.1:=by
 rcases open_slice ht h with⟨hcs,_⟩|⟨ad,l,c,m,n,D,Pl,hcs,_,hl,hm,hmm,hxe,hx⟩
 ·simp at hcs
  obtain⟨rfl,rfl,rfl⟩:=hcs;exact⟨[], [], [],rfl,rfl,rfl,Recs.nil _ _,fun k h=>by simp at h,Nat.le_refl _,fun _=>rfl,Nat.zero_le _⟩
 simp at hcs
 obtain⟨rfl,rfl,rfl⟩:=hcs;have hlm:len≤m:=by rw[hmm];split<;>omega
 have hsum:(((List.range len).map D).map mu).sum+1≤mu x.1:=by rw[hxe];exact hmu.s _ _
 have each:∀i,i<len→∃d:α × β,(∀j u,(S.cells d.1)[j]?=some u→W.cell? (ad.add (i*S.k+j))=some u)∧Rel d.1 d.2 (D i):=by
  intro i hi;obtain⟨cs', h1,h2⟩:=hx i (by omega);rw[ce]at h1;obtain⟨_,hlen,hcell⟩:=World.cells?_some h1;have hlt:mu (D i)<mu x.1:=by
   have:mu (D i)≤(((List.range len).map D).map mu).sum:=sum_mem (List.mem_map.2 ⟨i,List.mem_range.2 hi,rfl⟩);omega
  obtain⟨r,z,e1,e2⟩:=hel n cs' _ hlen hlt h2;refine⟨(r,z),fun j u hu=>?_,e2⟩;have hj:j<S.k:=by
   have:=(List.getElem?_eq_some_iff.1 hu).1;rw[S.len]at this;exact this
  have hc:=hcell j (by omega);rw[add_add]at hc;rw[hc,e1];exact hu
 obtain⟨f,hf⟩:=choose_lt each;refine⟨(List.range len).map fun i=>(f i).1,(List.range len).map fun i=>(f i).2,(List.range len).map D,by simp,by simp,by simp,⟨by simp;omega,?_⟩,fun k h1 h2 h3=>?_,by omega,fun h=>(by cases h),by omega⟩
 rotate_left
 ·simp only[List.getElem_map,List.getElem_range]
  exact(hf k (by simpa using h1)).2
 by_cases hz:len=0
 ·subst hz;exact .inl rfl
 ·have hk:=S.pos
  have h0:=(hf 0 (by omega)).1 0 _ (List.getElem?_eq_getElem (by rw[S.len];exact hk));obtain⟨bb,off,spot⟩:=ad;have hspot:spot=none:=by simpa [Addr.add] using World.cell?_spot h0
  subst hspot;refine .inr ⟨bb,off,rfl,?_,fun q u hu=>?_⟩
  ·have:=World.block_lt_of_cell? W _ h0
   simpa [Addr.add] using this
  ·have hq:q<len*S.k:=by
    have:=(List.getElem?_eq_some_iff.1 hu).1;rw[Shape.flat_len]at this
    simpa using this
   have hi:q / S.k<len:=Nat.div_lt_of_lt_mul (by rw[Nat.mul_comm];exact hq);have hm:=Nat.mod_lt q hk;have e:q=q / S.k*S.k+q % S.k:=by rw[Nat.mul_comm];exact(Nat.div_add_mod q S.k).symm
   rw[e,S.flat_at _ (q / S.k) (by simpa using hi) (q % S.k) hm]at hu;simp only[List.getElem_map,List.getElem_range]at hu;have:=(hf (q / S.k) hi).1 (q % S.k) u hu;rw[Go.WideShapes.add_plain]at this;rw[e];exact this
theorem field_mu (hmu:Meas mu){cs:List Value}{fs:Array Field}{xs:List (DataW H × List MemPlace)}{n i o k:Nat}{f:Field}{x:DataW H × List MemPlace}(hx:x=(.agg (xs.map (·.1)),xs.flatMap (·.2)))
  (hf:∀(i:Nat) (f:Field),fs[i]?=some f→DataW.trod enc P W base spare held n f.type ((cs.drop f.offset).take (P.cellsOf f.type))=xs[i]?)
  (hl:xs.length=fs.size) (h:fs[i]?=some f) (ho:f.offset=o) (hc:P.cellsOf f.type=k):∃y,DataW.trod enc P W base spare held n f.type ((cs.drop o).take k)=some y∧mu y.1<mu x.1:=by
 have:=hf i f h;rw[ho,hc]at this;obtain⟨hi, -⟩:=Array.getElem?_eq_some_iff.1 h;rw[List.getElem?_eq_getElem (by omega)]at this;refine⟨_,this,?_⟩;rw[hx]
 show mu (xs[i]'(by omega)).1<mu (.agg (xs.map (·.1)))
 have h1:=hmu.a (xs.map (·.1));have h2:mu (xs[i]'(by omega)).1≤((xs.map (·.1)).map mu).sum:=sum_mem (List.mem_map.2 ⟨_,List.getElem_mem (by omega),rfl⟩);omega
structure TermT (P:Program) (e:TypeId):Prop where
 ex:∃(f0 f1 f2 f3:Field),P.underlying e=some (.struct #[f0,f1,f2,f3])∧(f0.offset=0∧f1.offset=1∧f2.offset=2∧f3.offset=3)∧(P.cellsOf f0.type=1∧P.cellsOf f1.type=1∧P.cellsOf f2.type=1∧P.cellsOf f3.type=1) ∧
  (P.underlying f0.type=some (.int .i64)∧P.underlying f1.type=some (.int .i64)∧P.underlying f2.type=some (.int .i64)∧P.underlying f3.type=some (.slice e))∧P.cellsOf e=4
def TmR (W:World) (d:Nat) (mu:DataW H→Nat) (r:RT) (t:Tm) (y:DataW H):Prop:=TV (fun _=>True) W d r t∧count t≤mu y
theorem countL_le {mu:DataW H→Nat}:∀{K:List Tm} {Ds:List (DataW H)},K.length=Ds.length→(∀k (h1:k<K.length) (h2:k<Ds.length),count K[k]≤mu Ds[k])→countL K≤(Ds.map mu).sum
 | [], [],_,_=>by simp[countL]
 | t::K,d::Ds,hl,h=>by
   have h0:=h 0 (by simp) (by simp);have ih:=countL_le (K:=K) (Ds:=Ds) (by simpa using hl) fun k h1 h2=>h (k+1) (by simpa using h1) (by simpa using h2)
   simp only[List.getElem_cons_zero]at h0;rw[countL,List.map_cons,List.sum_cons];omega
theorem open_term (hmu:Meas mu){e:TypeId}(he:TermT P e){d n:Nat}{cs:List Value}{y:DataW H × List MemPlace}(hl:cs.length=4)(h:DataW.trod enc P W base spare held n e cs=some y)
  (kids:∀(m:Nat) (a:Option Addr) (len cap:Nat) (t:TypeId) (z:DataW H × List MemPlace),P.underlying t=some (.slice e)→mu z.1<mu y.1→DataW.trod enc P W base spare held m t [.slice a len cap]=some z→∃K:List Tm,K.length=len∧TmsAt (fun _=>True) W d a K∧len≤cap∧(a=none→cap=0)∧countL K≤mu z.1) :
  ∃(r:RT) (t:Tm),cs=tCells r∧TmR W d mu r t y.1:=by
 obtain⟨f0,f1,f2,f3,hs,⟨o0,o1,o2,o3⟩,⟨c0,c1,c2,c3⟩,⟨t0,t1,t2,t3⟩, -⟩:=he.ex;obtain⟨xs,k,_,hxe,_,hxl,hf⟩:=DataW.trod_struct hs h;obtain⟨y0,q0, -⟩:=field_mu hmu hxe hf hxl (i:=0) (f:=f0) rfl o0 c0;obtain⟨y1,q1, -⟩:=field_mu hmu hxe hf hxl (i:=1) (f:=f1) rfl o1 c1;obtain⟨y2,q2, -⟩:=field_mu hmu hxe hf hxl (i:=2) (f:=f2) rfl o2 c2;obtain⟨y3,q3,m3⟩:=field_mu hmu hxe hf hxl (i:=3) (f:=f3) rfl o3 c3;obtain⟨v0,e0, -⟩:=int_in t0 q0;obtain⟨v1,e1, -⟩:=int_in t1 q1;obtain⟨v2,e2, -⟩:=int_in t2 q2;obtain⟨a,m,c,e3⟩:=slice_in t3 q3;rw[e3]at q3;obtain⟨K,k1,k2,k3,k4,k5⟩:=kids _ a m c _ y3 t3 m3 q3;have e3:=take_one e3;refine⟨⟨v0,v1,v2,a,m,c⟩,.mk v0 v1 v2 K,?_,⟨⟨rfl,rfl,rfl,k1.symm,k3,k4⟩,k2⟩,by rw[count];omega⟩
 match cs,hl with
 | [z0,z1,z2,z3],_ =>
   simp at e0 e1 e2 e3
   subst e0 e1 e2 e3
   rfl
theorem open_tms (hmu:Meas mu){e:TypeId}(he:TermT P e):∀(s fuel:Nat) (a:Option Addr) (len cap:Nat) (t:TypeId) (x:DataW H × List MemPlace),mu x.1≤s→P.underlying t=some (.slice e)→DataW.trod enc P W base spare held fuel t [.slice a len cap]=some x →
  ∃K:List Tm,K.length=len∧TmsAt (fun _=>True) W s a K∧len≤cap∧(a=none→cap=0)∧countL K≤mu x.1
 | 0,fuel,a,len,cap,t,x,hs,ht,h=>by
   rcases open_slice ht h with⟨hcs,_⟩|⟨ad,l,c,m,n,D,Pl,hcs,_,hl,hm,hmm,hxe,hx⟩
   ·simp at hcs
    obtain⟨rfl,rfl,rfl⟩:=hcs;exact⟨[],rfl,TmsAt.nil _ _ _ _,Nat.le_refl _,fun _=>rfl,Nat.zero_le _⟩
   ·have h1:=hmu.s ((List.range l).map D) ((List.range (m - l)).map fun j=>D (l+j))
    rw[hxe]at hs;exact absurd hs (by show ¬mu (.slice _ _)≤0;omega)
 | s+1,fuel,a,len,cap,t,x,hs,ht,h=>by
   obtain⟨f0,f1,f2,f3, -, -, -, -,h4⟩:=he.ex
   letI:Inhabited RT:=⟨⟨0,0,0,none,0,0⟩⟩
   letI:Inhabited Tm:=⟨.mk 0 0 0 []⟩
   obtain⟨R,L,Ds,l1,l2,l3,l4,l5,l6,l7,l8⟩:=open_rowsD (S:=ST) (Rel:=TmR W s mu) hmu ht h4 (fun n cs y hl hy hcs =>
    open_term hmu he hl hcs fun m a len cap t z ht hz h=>open_tms hmu he s m a len cap t z (by omega) ht h) h
   exact⟨L,l2,⟨R,by rw[l1,l2],l4,fun _ _ => .inr trivial,fun k h1 h2=>⟨(l5 k h1 h2 (by omega)).1.is,(l5 k h1 h2 (by omega)).1.at_⟩⟩,l6,l7,Nat.le_trans (countL_le (by omega) fun k h1 h2=>(l5 k (by omega) h1 h2).2) l8⟩
structure SchT (P:Program) (e:TypeId):Prop where
 ex:∃(f0 f1 f2 f3 f4 f5 f6:Field) (eb:TypeId) (g0 g1:Field),P.underlying e=some (.struct #[f0,f1,f2,f3,f4,f5,f6])∧(f0.offset=0∧f1.offset=1∧f2.offset=2∧f3.offset=6∧f4.offset=7∧f5.offset=8∧f6.offset=9) ∧
  (P.cellsOf f0.type=1∧P.cellsOf f1.type=1∧P.cellsOf f2.type=4∧P.cellsOf f3.type=1∧P.cellsOf f4.type=1∧P.cellsOf f5.type=1∧P.cellsOf f6.type=1) ∧
  (P.underlying f0.type=some (.int .i64)∧P.underlying f1.type=some .string∧TermT P f2.type∧P.underlying f3.type=some (.slice eb)∧P.underlying f4.type=some (.int .i64)∧P.underlying f5.type=some (.int .i64)∧P.underlying f6.type=some .bool) ∧
  P.cellsOf eb=2∧P.underlying eb=some (.struct #[g0,g1])∧(g0.offset=0∧g1.offset=1)∧(P.cellsOf g0.type=1∧P.cellsOf g1.type=1)∧(P.underlying g0.type=some (.int .i64)∧P.underlying g1.type=some (.int .i64))
def ScR (W:World) (d:Nat) (mu:DataW H→Nat) (r:RSx) (s:Sch) (y:DataW H):Prop:=SV (fun _=>True) W d r s∧count s.cond≤mu y∧s.nm.size≤maxLen
theorem open_scheme (hmu:Meas mu){e:TypeId}(he:SchT P e){d n:Nat}{cs:List Value}{y:DataW H × List MemPlace}(hd:mu y.1≤d)(hl:cs.length=10)(h:DataW.trod enc P W base spare held n e cs=some y) :
  ∃(r:RSx) (s:Sch),cs=sCells r∧ScR W d mu r s y.1:=by
 obtain⟨f0,f1,f2,f3,f4,f5,f6,eb,g0,g1,hs,⟨o0,o1,o2,o3,o4,o5,o6⟩,⟨c0,c1,c2,c3,c4,c5,c6⟩,⟨t0,t1,t2,t3,t4,t5,t6⟩,cb,hb,⟨p0,p1⟩,⟨d0,d1⟩,⟨u0,u1⟩⟩:=he.ex;obtain⟨xs,k,_,hxe,_,hxl,hf⟩:=DataW.trod_struct hs h;obtain⟨y0,q0, -⟩:=field_mu hmu hxe hf hxl (i:=0) (f:=f0) rfl o0 c0;obtain⟨y1,q1, -⟩:=field_mu hmu hxe hf hxl (i:=1) (f:=f1) rfl o1 c1;obtain⟨y2,q2,m2⟩:=field_mu hmu hxe hf hxl (i:=2) (f:=f2) rfl o2 c2;obtain⟨y3,q3, -⟩:=field_mu hmu hxe hf hxl (i:=3) (f:=f3) rfl o3 c3;obtain⟨y4,q4, -⟩:=field_mu hmu hxe hf hxl (i:=4) (f:=f4) rfl o4 c4;obtain⟨y5,q5, -⟩:=field_mu hmu hxe hf hxl (i:=5) (f:=f5) rfl o5 c5;obtain⟨y6,q6, -⟩:=field_mu hmu hxe hf hxl (i:=6) (f:=f6) rfl o6 c6;obtain⟨v0,e0, -⟩:=int_in t0 q0;obtain⟨v4,e4, -⟩:=int_in t4 q4;obtain⟨v5,e5, -⟩:=int_in t5 q5;obtain⟨nm,e1, -,hnm⟩:=DataW.trod_string t1 q1;have e1:=take_one e1;obtain⟨nd,e6, -⟩:=DataW.trod_bool t6 q6;have e6:=take_one e6;obtain⟨rt,t,et,ht,hct⟩:=open_term hmu t2 (d:=d) (by rw[List.length_take,List.length_drop,hl];rfl) q2 fun m a len cap t z ht hz h=>open_tms hmu t2 d m a len cap t z (by omega) ht h
 obtain⟨a,m,c,e3⟩:=slice_in t3 q3;rw[e3]at q3
 letI:Inhabited Brk:=⟨⟨0,0⟩⟩
 obtain⟨B,L,b1,b2,b3,b4,b5,b6⟩:=open_rows (S:=SBk) (β:=Unit) (Rel:=fun _ _=>True) t3 cb (fun n cs y hl hy=>by
  obtain⟨xs,k,_,_,_,hxl,hf⟩:=DataW.trod_struct hb hy;obtain⟨z0,s0⟩:=field_at hf hxl (i:=0) (f:=g0) rfl p0 d0;obtain⟨z1,s1⟩:=field_at hf hxl (i:=1) (f:=g1) rfl p1 d1;obtain⟨w0,k0, -⟩:=int_in u0 s0;obtain⟨w1,k1, -⟩:=int_in u1 s1;refine⟨⟨w0,w1⟩,(),?_,trivial⟩
  match cs,hl with
  | [x0,x1],_ =>
    simp at k0 k1
    subst k0 k1
    rfl) q3
 have e3:=take_one e3;have r0:=drop_at (cs:=cs) (o:=2) (k:=4) (i:=0) (by rw[et];rfl);have r1:=drop_at (cs:=cs) (o:=2) (k:=4) (i:=1) (by rw[et];rfl);have r2:=drop_at (cs:=cs) (o:=2) (k:=4) (i:=2) (by rw[et];rfl);have r3:=drop_at (cs:=cs) (o:=2) (k:=4) (i:=3) (by rw[et];rfl);refine⟨⟨v0,nm,rt,a,m,c,v4,v5,nd⟩,⟨v0,nm,t,B,v4,v5,nd⟩,?_,⟨rfl,rfl,ht,b3,b1.symm,b5,b6,fun _ _ => .inr trivial,rfl,rfl,rfl⟩,by show count t≤mu y.1;omega,hnm⟩
 match cs,hl with
 | [z0,z1,z2,z3,z4,z5,z6,z7,z8,z9],_ =>
   simp at e0 e1 e3 e4 e5 e6 r0 r1 r2 r3
   subst e0 e1 e3 e4 e5 e6 r0 r1 r2 r3
   rfl
theorem open_schemes (hmu:Meas mu){t e:TypeId}{fuel:Nat}{a:Option Addr}{len cap:Nat}{x:DataW H × List MemPlace}(ht:P.underlying t=some (.slice e))(ce:P.cellsOf e=10)(he:SchT P e)
  (h:DataW.trod enc P W base spare held fuel t [.slice a len cap]=some x):∃L:List Sch,L.length=len∧SsAt (fun _=>True) W (mu x.1) a L∧len≤cap∧(a=none→cap=0)∧(∀s∈L,s.nm.size≤maxLen∧count s.cond≤mu x.1):=by
 letI:Inhabited RSx:=⟨⟨0,⟨#[]⟩,⟨0,0,0,none,0,0⟩,none,0,0,0,0,false⟩⟩
 letI:Inhabited Sch:=⟨⟨0,⟨#[]⟩,.mk 0 0 0 [], [],0,0,false⟩⟩
 obtain⟨R,L,Ds,l1,l2,l3,l4,l5,l6,l7,l8⟩:=open_rowsD (S:=SSc) (Rel:=ScR W (mu x.1) mu) hmu ht ce (fun n cs y hl hy h=>open_scheme hmu he (Nat.le_of_lt hy) hl h) h;refine⟨L,l2,⟨⟨R,by rw[l1,l2],l4,fun k h1 h2=>(l5 k h1 h2 (by omega)).1⟩,fun _ _ => .inr trivial⟩,l6,l7,fun s hs=>?_⟩;obtain⟨k,hk,rfl⟩:=List.mem_iff_getElem.1 hs;obtain⟨-,k1,k2⟩:=l5 k (by omega) hk (by omega);have:mu (Ds[k]'(by omega))≤(Ds.map mu).sum:=sum_mem (List.getElem_mem _);exact⟨k2,by omega⟩
end
end Go.Proofs.YtbcmabolkkfgfaaGreatDoor
