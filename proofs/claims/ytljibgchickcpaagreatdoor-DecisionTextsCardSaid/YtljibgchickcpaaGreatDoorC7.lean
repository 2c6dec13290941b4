/- Packed. -/
import Derived.Test.YtljibgchickcpaaGreatDoorC6
set_option maxRecDepth 100000
set_option maxHeartbeats 8000000
open Go.Value renaming int → I
open Go.IntKind renaming i64 → O
namespace Go.Proofs.YtljibgchickcpaaGreatDoor.As
open Sc Go.RowKit
theorem chk17_zero {L:List Sch}(h:(chk17 L).2=0):chk17 L=(-1,0):=by
 unfold chk17 at h ⊢
 by_cases h16:16<L.length
 ·rw[if_pos h16]at h;cases h
 rw[if_neg h16]at h ⊢
 cases hA:fst (errA L) L.length with
 | some i =>
   rw[hA]at h;have:=List.find?_some (show((List.range L.length).find? fun i=>errA L i != 0)=some i from hA);simp only[bne_iff_ne]at this;exact absurd h this
 | none =>
   rw[hA]at h;simp only at h ⊢
   cases hB:fst (errB L) L.length with
   | some i=>rw[hB]at h;cases h
   | none=>rfl
theorem chkY_ok {l:YLaw}(h:chkY l=0):YOk l:=by
 unfold chkY at h
 by_cases h1:l.sch.length=0
 ·rw[if_pos h1]at h;omega
 rw[if_neg h1]at h
 by_cases h2:(chk17 l.sch).2≠0
 ·rw[if_pos h2]at h;exact absurd h h2
 rw[if_neg h2]at h
 by_cases h3:Re.chk l.steps≠0
 ·rw[if_pos h3]at h;exact absurd h h3
 rw[if_neg h3]at h
 by_cases h4:chkL l.late≠0
 ·rw[if_pos h4]at h;exact absurd h h4
 rw[if_neg h4]at h
 by_cases h5:Ce.chk l.deg≠0
 ·rw[if_pos h5]at h;exact absurd h h5
 rw[if_neg h5]at h
 by_cases h6:En.money l.cap=false∨En.money l.env=false
 ·rw[if_pos h6]at h;omega
 rw[if_neg h6]at h
 by_cases h7:l.unit<1∨100000<l.unit∨l.width<0∨200<l.width
 ·rw[if_pos h7]at h;omega
 have m:∀n,¬En.money n=false→0≤n∧n≤68719476736:=fun n hn=>En.money_iff.1 (by simpa using hn)
 exact⟨h1,chk17_zero (by omega),Re.chk_zero.1 (by omega),latOk (by omega),Ce.chk_zero.1 (by omega),m _ fun e=>h6 (.inl e),m _ fun e=>h6 (.inr e),by omega,by omega⟩
structure LineOk (l:YLaw) (x:LineF):Prop where
 bits:bits BinOp.andNot IntKind.i64 x.sch (allV l.sch)=0
 len:x.due.length=l.sch.length
 d0:0≤x.decl
 d1:x.decl≤268435456
 fact:∀k s,l.sch[k]?=some s→namesB x s=true→chk28 (factOf x k) l.width=0
 no:∀k s,l.sch[k]?=some s→namesB x s=false→x.due.getD k 0=0
theorem lineOk {l:YLaw}{x:LineF}:lineB l x=true↔LineOk l x:=by
 unfold lineB;simp only[Bool.and_eq_true,decide_eq_true_eq,List.all_eq_true,List.mem_range]
 constructor
 ·rintro ⟨h1,h2,h3,h4,h5⟩
  refine⟨h1,h2,h3,h4,fun k s e hn=>?_,fun k s e hn=>?_⟩
  all_goals
   have:=h5 k (List.getElem?_eq_some_iff.1 e).1;unfold schOk at this;rw[e]at this;simp only[hn,if_true,if_false,Bool.false_eq_true,decide_eq_true_eq]at this;exact this
 ·intro h
  refine⟨h.bits,h.len,h.d0,h.d1,fun k hk=>?_⟩
  unfold schOk;rw[List.getElem?_eq_getElem hk];simp only
  cases hn:namesB x l.sch[k] with
  | true=>simp only[if_true,decide_eq_true_eq];exact h.fact k _ (List.getElem?_eq_getElem hk) hn
  | false=>simp only[Bool.false_eq_true,if_false,decide_eq_true_eq];exact h.no k _ (List.getElem?_eq_getElem hk) hn
structure FarmOk (l:YLaw) (f:FarmF):Prop where
 f0:1≤f.farm
 f1:f.farm≤60
 d0:0≤f.day
 d1:f.day≤36864
 len:f.lines.length≤20
 line:∀x∈f.lines,LineOk l x
 sum:declSum f.lines≤268435456
theorem farmOk {l:YLaw}{f:FarmF}:farmB l f=true↔FarmOk l f:=by
 unfold farmB;simp only[Bool.and_eq_true,decide_eq_true_eq,List.all_eq_true]
 constructor
 ·rintro ⟨h1,h2,h3,h4,h5,h6,h7⟩
  exact⟨h1,h2,h3,h4,h5,fun x hx=>lineOk.1 (h6 x hx),h7⟩
 ·intro h
  exact⟨h.f0,h.f1,h.d0,h.d1,h.len,fun x hx=>lineOk.2 (h.line x hx),h.sum⟩
structure FOk (l:YLaw) (F:List FarmF):Prop where
 law:YOk l
 len:F.length≤10
 farm:∀f∈F,FarmOk l f
 asc:∀i (h:i+1<F.length),F[i].farm<F[i+1].farm
theorem fOk {l:YLaw}{F:List FarmF}(h:chkF l F=0):FOk l F:=by
 unfold chkF at h
 by_cases h1:chkY l≠0
 ·rw[if_pos h1]at h;exact absurd h h1
 rw[if_neg h1]at h
 by_cases h2:10<F.length
 ·rw[if_pos h2]at h;omega
 rw[if_neg h2]at h
 by_cases h3:(List.range F.length).all (farmAt l F)=true
 ·have at_:∀i (hi:i<F.length),farmAt l F i=true:=fun i hi=>List.all_eq_true.1 h3 i (List.mem_range.2 hi)
  refine⟨chkY_ok (by omega),by omega,fun f hf=>?_,fun i hi=>?_⟩
  ·obtain⟨i,hi,rfl⟩:=List.mem_iff_getElem.1 hf
   have:=at_ i hi;unfold farmAt at this;rw[List.getElem?_eq_getElem hi]at this;simp only[Bool.and_eq_true]at this;exact farmOk.1 this.1
  ·have:=at_ (i+1) hi
   unfold farmAt at this;rw[List.getElem?_eq_getElem hi]at this;simp only[Bool.and_eq_true]at this;have h4:=this.2;rw[List.getElem?_eq_getElem (by omega)]at h4
   simpa using h4
 ·rw[if_neg h3]at h;omega
theorem YOk.chk {l:YLaw}(h:YOk l):chkY l=0:=by
 have m:∀n:Int,0≤n∧n≤68719476736→¬En.money n=false:=fun n hn e=>by rw[En.money_iff.2 hn]at e;cases e
 have hl:=h.late;have h1:=hl.d0;have h2:=hl.d1;have h3:=hl.d2;have h4:=hl.m0;have h5:=hl.m1;have h6:=h.unit;have h7:=h.width;unfold chkY
 rw[if_neg h.ne,if_neg (by rw[h.sch];decide),if_neg (by rw[Re.chk_zero.2 h.steps];decide),if_neg (by unfold chkL;rw[if_neg (by omega)];decide),if_neg (by rw[Ce.chk_zero.2 h.deg];decide),
  if_neg fun e=>e.elim (m _ h.cap) (m _ h.env),if_neg (by omega)]
theorem FOk.chk {l:YLaw}{F:List FarmF}(h:FOk l F):chkF l F=0:=by
 unfold chkF;have h2:=h.len;rw[if_neg (by rw[h.law.chk];decide),if_neg (by omega),if_pos];rw[List.all_eq_true];intro i hi;have hi:=List.mem_range.1 hi;unfold farmAt;rw[List.getElem?_eq_getElem hi];simp only[Bool.and_eq_true];refine⟨farmOk.2 (h.farm _ (List.getElem_mem hi)),?_⟩
 cases i with
 | zero=>rfl
 | succ k =>
   simp only;rw[List.getElem?_eq_getElem (by omega)]
   simpa using h.asc k hi
theorem FOk.one {l:YLaw}{F:List FarmF}(h:FOk l F){f:FarmF}(hf:f∈F):FOk l [f] :=
 ⟨h.law,by simp,fun g hg=>by rw[List.mem_singleton.1 hg];exact h.farm f hf,fun i hi=>by simp at hi⟩
/-! ### sums -/
section sums
variable {l:YLaw} {k:Nat} {s:Sch} {K:List LineF}
theorem sumD_bd (h:∀x∈K,0≤x.decl):0≤sumD s K∧sumD s K≤declSum K:=by
 unfold sumD declSum;refine⟨Sh.sum_nonneg fun y hy=>?_,Sh.sum_map_le fun x hx=>?_⟩
 ·obtain⟨x,hx,rfl⟩:=List.mem_map.1 hy
  have:=h x hx
  split<;>omega
 ·have:=h x hx
  split<;>omega
theorem line_det (hl:YOk l)(hx:∀x∈K,LineOk l x)(hk:l.sch[k]?=some s){x:LineF}(h:x∈K)(hn:namesB x s=true) :
  0≤(det (factOf x k) l.width).1∧(det (factOf x k) l.width).1≤x.decl∧((det (factOf x k) l.width).2=0↔(det (factOf x k) l.width).1=x.decl):=by
 have f:=(chk28_zero ((hx x h).fact k s hk hn)).1.det hl.width.1 hl.width.2;exact⟨f.1,f.2.1,f.2.2.1⟩
theorem sumN_bd (hl:YOk l)(hx:∀x∈K,LineOk l x)(hk:l.sch[k]?=some s):0≤sumN l k s K∧sumN l k s K≤sumD s K:=by
 unfold sumN sumD;refine⟨Sh.sum_nonneg fun y hy=>?_,Sh.sum_map_le fun x h=>?_⟩
 ·obtain⟨x,h,rfl⟩:=List.mem_map.1 hy
  split
  ·rename_i hn;exact(line_det hl hx hk h hn).1
  ·omega
 ·split
  ·rename_i hn;exact(line_det hl hx hk h hn).2.1
  ·omega
end sums
/-! ### one award -/
structure AwOk (a:Awd):Prop where
 n0:0≤a.det
 nd:a.det≤a.decl
 d1:a.decl≤268435456
 p0:0≤a.paid
 pn:a.paid≤a.det
 r0:0≤a.rated
 r1:a.rated≤68719476736
 t0:0≤a.timely
 tr:a.timely≤a.rated
theorem YOk.one {l:YLaw}(h:YOk l){k:Nat}{s:Sch}(hk:l.sch[k]?=some s):one17 s=0:=by
 obtain⟨hk', rfl⟩:=List.getElem?_eq_some_iff.1 hk;exact(lawOk h.sch).one _ (List.getElem_mem hk')
theorem paidOf_bd {l:YLaw}(hl:YOk l)(s:Sch){d n:Int}(n0:0≤n)(nd:n≤d)(d1:d≤268435456):0≤paidOf l s d n∧paidOf l s d n≤n:=by
 unfold paidOf
 split
 ·have e:Re.paidErr l.steps d n=0:=by
   unfold Re.paidErr;rw[if_neg (by rw[Re.chk_zero.2 hl.steps];decide),if_neg];rintro (e|e)
   ·rw[Re.area_iff.2 ⟨by omega,d1⟩]at e;cases e
   ·rw[Re.area_iff.2 ⟨n0,by omega⟩]at e;cases e
  unfold Re.paidVal;rw[if_neg (by omega)];have:=hl.steps.paid_bd (d:=d) (f:=n) (by omega) n0;omega
 ·omega
theorem award_ok {l:YLaw}{f:FarmF}(hl:YOk l)(hf:FarmOk l f){k:Nat}{s:Sch}(hk:l.sch[k]?=some s)(amt0:∀p,0≤p→p≤268435456→0≤amtV s p):AwOk (award l f k s):=by
 have b1:=sumD_bd (s:=s) fun x hx=>(hf.line x hx).d0
 have b2:=sumN_bd hl hf.line hk;have b3:=hf.sum;have b4:=paidOf_bd hl s b2.1 b2.2 (by omega);have b5:=amt0 _ b4.1 (by omega);have r0:0≤ratedOf s (paidOf l s (sumD s f.lines) (sumN l k s f.lines)):=by unfold ratedOf;omega
 have r1:ratedOf s (paidOf l s (sumD s f.lines) (sumN l k s f.lines))≤68719476736:=by unfold ratedOf;omega
 have t:=hl.late.left f.day r0;exact⟨b2.1,b2.2,by show sumD s f.lines≤_;omega,b4.1,b4.2,r0,r1,t.1,t.2⟩
theorem mem_awardsN {l:YLaw}{f:FarmF}{n:Nat}{a:Awd}:a∈awardsN l f n↔∃k s,k<n∧l.sch[k]?=some s∧someN s f.lines=true∧a=award l f k s:=by
 induction n with
 | zero=>simp[awardsN]
 | succ n ih =>
   unfold awardsN awStep;rw[List.mem_append,ih]
   constructor
   ·rintro (⟨k,s,h1,h2,h3,h4⟩|h)
    ·exact⟨k,s,by omega,h2,h3,h4⟩
    ·cases e:l.sch[n]? with
     | none=>rw[e]at h;simp at h
     | some s =>
       rw[e]at h;simp only at h
       split at h
       ·rename_i hs
        exact⟨n,s,by omega,e,hs,List.mem_singleton.1 h⟩
       ·simp at h
   ·rintro ⟨k,s,h1,h2,h3,h4⟩
    by_cases hk:k<n
    ·exact .inl ⟨k,s,hk,h2,h3,h4⟩
    ·obtain rfl:k=n:=by omega
     right
     rw[h2];simp only[h3,if_true];exact List.mem_singleton.2 h4
theorem awardsN_len (l:YLaw)(f:FarmF)(n:Nat):(awardsN l f n).length≤n:=by
 induction n with
 | zero=>simp[awardsN]
 | succ n ih =>
   unfold awardsN;rw[lap];have:(awStep l f n).length≤1:=by
    unfold awStep
    split
    ·split<;>simp
    ·simp
   omega
theorem awardsN_asc {l:YLaw}(hl:YOk l)(f:FarmF)(n:Nat):(awardsN l f n).Pairwise fun a b=>a.scheme<b.scheme:=by
 induction n with
 | zero=>simp[awardsN]
 | succ n ih =>
   unfold awardsN;rw[List.pairwise_append];unfold awStep;refine⟨ih,?_,fun a ha b hb=>?_⟩
   ·split
    ·split<;>simp
    ·simp
   ·cases e:l.sch[n]? with
    | none=>rw[e]at hb;simp at hb
    | some s =>
      rw[e]at hb;simp only at hb
      split at hb
      ·obtain⟨k,s', h1,h2,h3,rfl⟩:=mem_awardsN.1 ha
       rw[List.mem_singleton.1 hb];obtain⟨hn,rfl⟩:=List.getElem?_eq_some_iff.1 e;obtain⟨hk,rfl⟩:=List.getElem?_eq_some_iff.1 h2;exact(lawOk hl.sch).asc k n hk hn h1
      ·simp at hb
end Go.Proofs.YtljibgchickcpaaGreatDoor.As
namespace Go.Proofs.YtljibgchickcpaaGreatDoor
open Go.RowKit Sc As
theorem As.lineB_cases (l:YLaw)(x:LineF):((bits BinOp.andNot IntKind.i64 x.sch (allV l.sch) != 0)=true∧lineB l x=false) ∨
  ((bits BinOp.andNot IntKind.i64 x.sch (allV l.sch) != 0)=false∧x.due.length≠l.sch.length∧lineB l x=false) ∨
  ((bits BinOp.andNot IntKind.i64 x.sch (allV l.sch) != 0)=false∧x.due.length=l.sch.length∧x.decl<0∧lineB l x=false) ∨
  ((bits BinOp.andNot IntKind.i64 x.sch (allV l.sch) != 0)=false∧x.due.length=l.sch.length∧¬x.decl<0∧268435456<x.decl∧lineB l x=false) ∨
  ((bits BinOp.andNot IntKind.i64 x.sch (allV l.sch) != 0)=false∧x.due.length=l.sch.length∧¬x.decl<0∧¬268435456<x.decl∧lineB l x=(List.range l.sch.length).all (schOk l x)):=by
 unfold lineB;obtain⟨b,eb⟩:∃b,bits BinOp.andNot IntKind.i64 x.sch (allV l.sch)=b:=⟨_,rfl⟩;rw[eb]
 by_cases h0:b=0
 ·subst h0
  by_cases h1:x.due.length=l.sch.length
  ·by_cases h2:x.decl<0
   ·exact .inr (.inr (.inl ⟨rfl,h1,h2,by simp;omega⟩))
   ·by_cases h3:268435456<x.decl
    ·exact .inr (.inr (.inr (.inl ⟨rfl,h1,h2,h3,by simp;omega⟩)))
    ·refine .inr (.inr (.inr (.inr ⟨rfl,h1,h2,h3,?_⟩)))
     rw[dqt h1,dqt (show 0≤x.decl by omega),dqt (show x.decl≤268435456 by omega)]
     simp
  ·exact .inr (.inl ⟨rfl,h1,by simp[h1]⟩)
 ·exact .inl ⟨by simpa using h0,by simp[h0]⟩
theorem As.declSum_take {K:List LineF}{k:Nat}(hk:k<K.length):declSum (K.take (k+1))=declSum (K.take k)+K[k].decl:=by
 unfold declSum;rw[tsg hk,List.map_append,List.map_singleton,Sh.sum_snoc]
theorem As.declSum_bd {l:YLaw}{K:List LineF}:∀{k:Nat},k≤K.length→(∀j (h:j<K.length),j<k→lineB l K[j]=true)→0≤declSum (K.take k)∧declSum (K.take k)≤268435456*k
 | 0,_,_=>by simp[declSum,Sh.sum]
 | k+1,hk,h=>by
   have ih:=As.declSum_bd (k:=k) (by omega) fun j hj h2=>h j hj (by omega)
   have hl:=lineOk.1 (h k (by omega) (by omega));have:=hl.d0;have:=hl.d1;rw[declSum_take (by omega)]
   push_cast
   omega
theorem As.farmB_cases (l:YLaw)(f:FarmF):(f.farm<1∧farmB l f=false)∨(¬f.farm<1∧60<f.farm∧farmB l f=false)∨(¬f.farm<1∧¬60<f.farm∧f.day<0∧farmB l f=false) ∨
  (¬f.farm<1∧¬60<f.farm∧¬f.day<0∧36864<f.day∧farmB l f=false)∨(¬f.farm<1∧¬60<f.farm∧¬f.day<0∧¬36864<f.day∧20<f.lines.length∧farmB l f=false) ∨
  (¬f.farm<1∧¬60<f.farm∧¬f.day<0∧¬36864<f.day∧¬20<f.lines.length∧farmB l f=(f.lines.all (lineB l)&&decide (declSum f.lines≤268435456))):=by
 unfold farmB
 by_cases h1:f.farm<1
 ·exact .inl ⟨h1,by simp;omega⟩
 by_cases h2:60<f.farm
 ·exact .inr (.inl ⟨h1,h2,by simp;omega⟩)
 by_cases h3:f.day<0
 ·exact .inr (.inr (.inl ⟨h1,h2,h3,by simp;omega⟩))
 by_cases h4:36864<f.day
 ·exact .inr (.inr (.inr (.inl ⟨h1,h2,h3,h4,by simp;omega⟩)))
 by_cases h5:20<f.lines.length
 ·exact .inr (.inr (.inr (.inr (.inl ⟨h1,h2,h3,h4,h5,by simp;omega⟩))))
 ·refine .inr (.inr (.inr (.inr (.inr ⟨h1,h2,h3,h4,h5,?_⟩))))
  rw[dqt (show 1≤f.farm by omega),dqt (show f.farm≤60 by omega),dqt (show 0≤f.day by omega),dqt (show f.day≤36864 by omega),dqt (show f.lines.length≤20 by omega)];simp only[Bool.true_and]
theorem As.YOk.num {l:YLaw}(h:YOk l):∀s∈l.sch,0≤s.num∧s.num≤15:=fun _ hs=>(lawOk h.sch).num hs
theorem As.farmAt_zero {l:YLaw}{F:List FarmF}(h:0<F.length):farmAt l F 0=farmB l F[0]:=by
 unfold farmAt;rw[List.getElem?_eq_getElem h];simp
theorem As.farmAt_succ {l:YLaw}{F:List FarmF}{k:Nat}(h:k+1<F.length):farmAt l F (k+1)=(farmB l F[k+1]&&decide (F[k].farm<F[k+1].farm)):=by
 unfold farmAt;rw[List.getElem?_eq_getElem h];simp only;rw[List.getElem?_eq_getElem (by omega)]
theorem As.farmAt_bad {l:YLaw}{F:List FarmF}{k:Nat}(hk:k<F.length)(h:farmB l F[k]=false):farmAt l F k=false:=by
 unfold farmAt;rw[List.getElem?_eq_getElem hk];simp only;rw[h];rfl
theorem As.chkF_bad {l:YLaw}{F:List FarmF}{k:Nat}(h0:chkY l=0)(h1:¬10<F.length)(hk:k<F.length)(h:farmAt l F k=false):chkF l F=68:=by
 unfold chkF;rw[if_neg (by omega),if_neg h1,if_neg];rw[List.all_eq_true];intro h2;rw[h2 k (List.mem_range.2 hk)]at h
 cases h
theorem As.chkF_good {l:YLaw}{F:List FarmF}(h0:chkY l=0)(h1:¬10<F.length)(h:∀k,k<F.length→farmAt l F k=true):chkF l F=0:=by
 unfold chkF;rw[if_neg (by omega),if_neg h1,if_pos];rw[List.all_eq_true];exact fun k hk=>h k (List.mem_range.1 hk)
theorem ab_eq {D:List (Int × Int)}{k:Nat}{x y:Int}(h:D.getD k (0,0)=(x,y)):Re.ab D k=x:=by unfold Re.ab;rw[h]
theorem ti_eq {D:List (Int × Int)}{k:Nat}{x y:Int}(h:D.getD k (0,0)=(x,y)):Re.ti D k=y:=by unfold Re.ti;rw[h]
theorem hold_facts {D:List (Int × Int)}{k:Nat}{x y d f:Int}(hR:Re.Right D)(hk:k<D.length)(h:D.getD k (0,0)=(x,y))(d0:0≤d∧d≤268435456)(f0:0≤f∧f≤268435456) :
  ∃X M:Int,IntKind.i64.wrap (x*f)=X∧IntKind.i64.wrap (1000*max 0 (d - f))=M∧IntKind.i64.wrap (d - f)=d - f∧Re.holds D d f k=decide (X<M):=by
 have h1:=hR.ab0 hk;rw[ab_eq h]at h1;have h2:0≤x*f:=Int.mul_nonneg h1.1 f0.1;have h3:x*f≤100000*268435456:=Int.mul_le_mul h1.2 f0.2 f0.1 (by omega);refine⟨x*f,1000*max 0 (d - f),?_,?_,?_,?_⟩
 ·generalize x*f=y at *;rw[IntKind.wrap_i64];omega
 ·rw[IntKind.wrap_i64];omega
 ·rw[IntKind.wrap_i64];omega
 ·unfold Re.holds;rw[ab_eq h]
theorem step_cases (D:List (Int × Int))(d f:Int) :
  (Re.chk D=66∧Re.stepV D d f = -1)∨(Re.chk D=0∧Re.area d=false∧Re.stepV D d f = -1)∨(Re.chk D=0∧Re.area d=true∧Re.area f=false∧Re.stepV D d f = -1)∨(Re.chk D=0∧Re.area d=true∧Re.area f=true∧Re.Right D∧Re.stepV D d f=Re.step D d f):=by
 by_cases hR:Re.Right D
 ·have c:=Re.chk_zero.2 hR
  cases h1:Re.area d
  ·exact .inr (.inl ⟨c,rfl,by unfold Re.stepV;rw[if_pos (.inr (.inl h1))]⟩)
  ·cases h2:Re.area f
   ·exact .inr (.inr (.inl ⟨c,rfl,rfl,by unfold Re.stepV;rw[if_pos (.inr (.inr h2))]⟩))
   ·exact .inr (.inr (.inr ⟨c,rfl,rfl,hR,by unfold Re.stepV;rw[if_neg];rw[c,h1,h2];simp⟩))
 ·have c:=Re.chk_not hR
  exact .inl ⟨c,by unfold Re.stepV;rw[if_pos (.inl (by rw[c];decide))]⟩
theorem paid_cases (D:List (Int × Int))(d f:Int) :
  (Re.chk D=66∧Re.paidErr D d f=66∧Re.paidVal D d f=0)∨(Re.chk D=0∧Re.area d=false∧Re.paidErr D d f=2∧Re.paidVal D d f=0)∨(Re.chk D=0∧Re.area d=true∧Re.area f=false∧Re.paidErr D d f=2∧Re.paidVal D d f=0) ∨
  (Re.chk D=0∧Re.area d=true∧Re.area f=true∧Re.Right D∧Re.paidErr D d f=0∧Re.paidVal D d f=Re.paid D d f):=by
 rcases step_cases D d f with⟨c, -⟩|⟨c,h1, -⟩|⟨c,h1,h2, -⟩|⟨c,h1,h2,hR, -⟩
 ·have e:Re.paidErr D d f=66:=by unfold Re.paidErr;rw[if_pos (by rw[c];decide)]
  exact .inl ⟨c,e,by unfold Re.paidVal;rw[if_pos (by rw[e];decide)]⟩
 ·have e:Re.paidErr D d f=2:=by unfold Re.paidErr;rw[if_neg (by rw[c];decide),if_pos (.inl h1)]
  exact .inr (.inl ⟨c,h1,e,by unfold Re.paidVal;rw[if_pos (by rw[e];decide)]⟩)
 ·have e:Re.paidErr D d f=2:=by unfold Re.paidErr;rw[if_neg (by rw[c];decide),if_pos (.inr h2)]
  exact .inr (.inr (.inl ⟨c,h1,h2,e,by unfold Re.paidVal;rw[if_pos (by rw[e];decide)]⟩))
 ·have e:Re.paidErr D d f=0:=by unfold Re.paidErr;rw[if_neg (by rw[c];decide),if_neg (by rw[h1,h2];simp)]
  exact .inr (.inr (.inr ⟨c,h1,h2,hR,e,by unfold Re.paidVal;rw[if_neg (by rw[e];decide)]⟩))
theorem refrcheck_any (p:Option Addr)(D:List (Int × Int))(cap:Nat)(w:World)(h:Pairs w p D) :
  Calls Tryz.prog 123 #[.slice p D.length cap] w fun e w' => e = .returned (I O (Re.chk D))∧∃n,w' = w.drewN n:=by
 have hn:=h.len
 by_cases h6:6<D.length∨D.length<1
 ·have hc:Re.chk D=66:=Re.chk_not fun hR=>by have:=hR.len;have:=hR.len1;omega
  rw[hc];clear h hc
  rcases h6 with h6|h6
  ·go_enter Tryz.func123,Tryz.ntmps123
   go_wp2
   go_ret
   exact⟨rfl,0,rfl⟩
  ·have hz:¬(6:Int)<(D.length:Int):=by omega
   go_enter Tryz.func123,Tryz.ntmps123
   go_wp2
   go_ret
   exact⟨rfl,0,rfl⟩
 ·have h1:1≤D.length:=by omega
  have h66:D.length≤6:=by omega
  have H:=mh h;clear h h6;have hwl:IntKind.i64.wrap ((D.length:Int) - 1)=(D.length:Int) - 1:=by rw[IntKind.wrap_i64];omega
  go_enter Tryz.func123,Tryz.ntmps123
  go_wp2
  go_loopw [3] (fun i wr=>∃k n:Nat,k≤D.length∧i=I O k∧(∀j,j<k→Re.okAt D j=true)∧wr=w.drewN n) (fun i _=>D.length - (intOf i).toNat)
  case atStart=>exact⟨0,0,Nat.zero_le _,rfl,fun j hj=>absurd hj (Nat.not_lt_zero j),rfl⟩
  case round =>
   obtain⟨k,n,hk,rfl,hok,hb⟩:=hrel;have HOK:=mh hok;have HW:=mh hb;have hcells:∀a,wr.cell? a=w.cell? a:=fun a=>by rw[hb];rfl
   have HCE:=mh hcells;clear hb hcells
   by_cases hlt:k<D.length
   ·obtain⟨b,off,x,y,rfl,hbl,hx0,hy0,hxy⟩:=H.out.get hlt
    have hx1:=(HCE.out _).trans hx0;have hy1:=(HCE.out _).trans hy0;have hk0:(0:Int)≤(k:Int):=inn _;have hk1:(k:Int)<(D.length:Int):=by omega
    have next:Re.okAt D k=true→∀j,j<k+1→Re.okAt D j=true:=fun h j hj=>by
     by_cases e:j=k
     ·rw[e];exact h
     ·exact HOK.out j (by omega)
    have NEXT:=mh next;clear hok hx0 hy0 next
    rcases Nat.eq_zero_or_pos k with rfl|hpos
    ·simp only[Nat.zero_mul,Nat.add_zero]at hx1 hy1
     have ST:=mh (stOk (lx:=0) (ly:=0) hxy.out (fun h=>absurd rfl h))
     rcases (show(x<0)∨(¬(x<0)∧100000<x)∨(¬(x<0)∧¬(100000<x)∧y < -1)∨(¬(x<0)∧¬(100000<x)∧¬(y < -1)∧10<y)∨(¬(x<0)∧¬(100000<x)∧¬(y < -1)∧¬(10<y)∧y = -1∧¬((0:Int)=(D.length:Int) - 1))∨(¬(x<0)∧¬(100000<x)∧¬(y < -1)∧¬(10<y)∧y = -1∧(0:Int)=(D.length:Int) - 1)∨(¬(x<0)∧¬(100000<x)∧¬(y < -1)∧¬(10<y)∧¬(y = -1)) by omega) with h0|⟨h0,h1⟩|⟨h0,h1,h2⟩|⟨h0,h1,h2,h3⟩|⟨h0,h1,h2,h3,h4,h5⟩|⟨h0,h1,h2,h3,h4,h5⟩|⟨h0,h1,h2,h3,h4⟩
     ·have hB:=mh (rchk_bad hlt fun h=>absurd (ST.out.1 h) (by omega))
      have f0:decide (x<0)=true:=dqt h0
      go_wp2
      go_ret
      exact⟨by rw[hB.out];rfl,_,by first|exact HW.out|(rw[HW.out];exact drewN_two _ _ _)⟩
     ·have hB:=mh (rchk_bad hlt fun h=>absurd (ST.out.1 h) (by omega))
      have f0:decide (x<0)=false:=dqf h0;have f1:decide (100000<x)=true:=dqt h1
      go_wp2
      go_ret
      exact⟨by rw[hB.out];rfl,_,by first|exact HW.out|(rw[HW.out];exact drewN_two _ _ _)⟩
     ·have hB:=mh (rchk_bad hlt fun h=>absurd (ST.out.1 h) (by omega))
      have f0:decide (x<0)=false:=dqf h0;have f1:decide (100000<x)=false:=dqf h1;have f2:decide (y < -1)=true:=dqt h2
      go_wp2
      go_ret
      exact⟨by rw[hB.out];rfl,_,by first|exact HW.out|(rw[HW.out];exact drewN_two _ _ _)⟩
     ·have hB:=mh (rchk_bad hlt fun h=>absurd (ST.out.1 h) (by omega))
      have f0:decide (x<0)=false:=dqf h0;have f1:decide (100000<x)=false:=dqf h1;have f2:decide (y < -1)=false:=dqf h2;have f3:decide (10<y)=true:=dqt h3
      go_wp2
      go_ret
      exact⟨by rw[hB.out];rfl,_,by first|exact HW.out|(rw[HW.out];exact drewN_two _ _ _)⟩
     ·have hB:=mh (rchk_bad hlt fun h=>absurd (ST.out.1 h) (by omega))
      have f0:decide (x<0)=false:=dqf h0;have f1:decide (100000<x)=false:=dqf h1;have f2:decide (y < -1)=false:=dqf h2;have f3:decide (10<y)=false:=dqf h3;have f4:(y == -1)=true:=beq_iff_eq.2 h4;have g4:(y != -1)=false:=by show(!(y == -1))=_;rw[f4];rfl
      have f5:((0:Int)==(D.length:Int) - 1)=false:=beq_eq_false_iff_ne.2 h5;clear h4 h5
      go_wp2
      go_ret
      exact⟨by rw[hB.out];rfl,_,by first|exact HW.out|(rw[HW.out];exact drewN_two _ _ _)⟩
     ·have hG:=NEXT.out (ST.out.2 (by omega))
      have HG:=mh hG;clear hG;have f0:decide (x<0)=false:=dqf h0;have f1:decide (100000<x)=false:=dqf h1;have f2:decide (y < -1)=false:=dqf h2;have f3:decide (10<y)=false:=dqf h3;have f4:(y == -1)=true:=beq_iff_eq.2 h4;have g4:(y != -1)=false:=by show(!(y == -1))=_;rw[f4];rfl
      have f5:((0:Int)==(D.length:Int) - 1)=true:=beq_iff_eq.2 h5;clear h4 h5
      go_wp2_with fail
      go_quiet (fail)
      go_wp2
      go_roundw
      case rel=>exact⟨0+1,_,by omega,by go_num,HG.out,by first|exact HW.out|(rw[HW.out];exact drewN_two _ _ _)⟩
      case measure=>simp[intOf];omega
     ·have hG:=NEXT.out (ST.out.2 (by omega))
      have HG:=mh hG;clear hG;have f0:decide (x<0)=false:=dqf h0;have f1:decide (100000<x)=false:=dqf h1;have f2:decide (y < -1)=false:=dqf h2;have f3:decide (10<y)=false:=dqf h3;have f4:(y == -1)=false:=beq_eq_false_iff_ne.2 h4;have g4:(y != -1)=true:=by show(!(y == -1))=_;rw[f4];rfl
      clear h4
      go_wp2_with fail
      go_quiet (fail)
      go_wp2
      go_roundw
      case rel=>exact⟨0+1,_,by omega,by go_num,HG.out,by first|exact HW.out|(rw[HW.out];exact drewN_two _ _ _)⟩
      case measure=>simp[intOf];omega
    ·obtain⟨k', rfl⟩:∃k', k=k' + 1:=⟨k - 1,by omega⟩
     obtain⟨b', off', lx,ly,e, -,hlx0,hly0,hlxy⟩:=H.out.get (k:=k') (by omega);simp only[Option.some.injEq,Addr.mk.injEq]at e;obtain⟨rfl,rfl, -⟩:=e;have ST:=mh (stOk (lx:=lx) (ly:=ly) hxy.out (fun _=>hlxy.out));have hw2:IntKind.i64.wrap (k' : Int)=(k' : Int):=by rw[IntKind.wrap_i64];omega
     have hlx1:=(HCE.out _).trans hlx0;have hly1:=(HCE.out _).trans hly0;have hw:IntKind.i64.wrap ((k' : Int)+1 - 1)=(k' : Int):=by rw[IntKind.wrap_i64];omega
     have hq0:(0:Int)≤(k' : Int):=inn _;have hq1:(k' : Int)<(D.length:Int):=by omega
     have hk0' : (0:Int)≤(k' : Int)+1:=by omega
     have hk1' : (k' : Int)+1<(D.length:Int):=by omega
     have hk2' : (0:Int)<(k' : Int)+1:=by omega
     clear hlx0 hly0
     rcases (show(x<0)∨(¬(x<0)∧100000<x)∨(¬(x<0)∧¬(100000<x)∧y < -1)∨(¬(x<0)∧¬(100000<x)∧¬(y < -1)∧10<y)∨(¬(x<0)∧¬(100000<x)∧¬(y < -1)∧¬(10<y)∧y = -1∧¬(((k' : Int)+1)=(D.length:Int) - 1))∨(¬(x<0)∧¬(100000<x)∧¬(y < -1)∧¬(10<y)∧y = -1∧((k' : Int)+1)=(D.length:Int) - 1∧x≤lx)∨(¬(x<0)∧¬(100000<x)∧¬(y < -1)∧¬(10<y)∧¬(y = -1)∧x≤lx)∨(¬(x<0)∧¬(100000<x)∧¬(y < -1)∧¬(10<y)∧y = -1∧((k' : Int)+1)=(D.length:Int) - 1∧¬(x≤lx))∨(¬(x<0)∧¬(100000<x)∧¬(y < -1)∧¬(10<y)∧¬(y = -1)∧¬(x≤lx)∧y<ly)∨(¬(x<0)∧¬(100000<x)∧¬(y < -1)∧¬(10<y)∧¬(y = -1)∧¬(x≤lx)∧¬(y<ly)) by omega) with h0|⟨h0,h1⟩|⟨h0,h1,h2⟩|⟨h0,h1,h2,h3⟩|⟨h0,h1,h2,h3,h4,h5⟩|⟨h0,h1,h2,h3,h4,h5,h6⟩|⟨h0,h1,h2,h3,h4,h5⟩|⟨h0,h1,h2,h3,h4,h5,h6⟩|⟨h0,h1,h2,h3,h4,h5,h6⟩|⟨h0,h1,h2,h3,h4,h5,h6⟩
     ·have hB:=mh (rchk_bad hlt fun h=>absurd (ST.out.1 h) (by omega))
      have f0:decide (x<0)=true:=dqt h0
      go_wp2
      go_ret
      exact⟨by rw[hB.out];rfl,_,by first|exact HW.out|(rw[HW.out];exact drewN_two _ _ _)⟩
     ·have hB:=mh (rchk_bad hlt fun h=>absurd (ST.out.1 h) (by omega))
      have f0:decide (x<0)=false:=dqf h0;have f1:decide (100000<x)=true:=dqt h1
      go_wp2
      go_ret
      exact⟨by rw[hB.out];rfl,_,by first|exact HW.out|(rw[HW.out];exact drewN_two _ _ _)⟩
     ·have hB:=mh (rchk_bad hlt fun h=>absurd (ST.out.1 h) (by omega))
      have f0:decide (x<0)=false:=dqf h0;have f1:decide (100000<x)=false:=dqf h1;have f2:decide (y < -1)=true:=dqt h2
      go_wp2
      go_ret
      exact⟨by rw[hB.out];rfl,_,by first|exact HW.out|(rw[HW.out];exact drewN_two _ _ _)⟩
     ·have hB:=mh (rchk_bad hlt fun h=>absurd (ST.out.1 h) (by omega))
      have f0:decide (x<0)=false:=dqf h0;have f1:decide (100000<x)=false:=dqf h1;have f2:decide (y < -1)=false:=dqf h2;have f3:decide (10<y)=true:=dqt h3
      go_wp2
      go_ret
      exact⟨by rw[hB.out];rfl,_,by first|exact HW.out|(rw[HW.out];exact drewN_two _ _ _)⟩
     ·have hB:=mh (rchk_bad hlt fun h=>absurd (ST.out.1 h) (by omega))
      have f0:decide (x<0)=false:=dqf h0;have f1:decide (100000<x)=false:=dqf h1;have f2:decide (y < -1)=false:=dqf h2;have f3:decide (10<y)=false:=dqf h3;have f4:(y == -1)=true:=beq_iff_eq.2 h4;have g4:(y != -1)=false:=by show(!(y == -1))=_;rw[f4];rfl
      have f5:(((k' : Int)+1)==(D.length:Int) - 1)=false:=beq_eq_false_iff_ne.2 h5;clear h4 h5
      go_wp2
      go_ret
      exact⟨by rw[hB.out];rfl,_,by first|exact HW.out|(rw[HW.out];exact drewN_two _ _ _)⟩
     ·have hB:=mh (rchk_bad hlt fun h=>absurd (ST.out.1 h) (by omega))
      have f0:decide (x<0)=false:=dqf h0;have f1:decide (100000<x)=false:=dqf h1;have f2:decide (y < -1)=false:=dqf h2;have f3:decide (10<y)=false:=dqf h3;have f4:(y == -1)=true:=beq_iff_eq.2 h4;have g4:(y != -1)=false:=by show(!(y == -1))=_;rw[f4];rfl
      have f5:(((k' : Int)+1)==(D.length:Int) - 1)=true:=beq_iff_eq.2 h5;have f6:decide (x≤lx)=true:=dqt h6;clear h4 h5
      go_wp2_with fail
      go_quiet (fail)
      go_wp2
      go_ret
      exact⟨by rw[hB.out];rfl,_,by first|exact HW.out|(rw[HW.out];exact drewN_two _ _ _)⟩
     ·have hB:=mh (rchk_bad hlt fun h=>absurd (ST.out.1 h) (by omega))
      have f0:decide (x<0)=false:=dqf h0;have f1:decide (100000<x)=false:=dqf h1;have f2:decide (y < -1)=false:=dqf h2;have f3:decide (10<y)=false:=dqf h3;have f4:(y == -1)=false:=beq_eq_false_iff_ne.2 h4;have g4:(y != -1)=true:=by show(!(y == -1))=_;rw[f4];rfl
      have f5:decide (x≤lx)=true:=dqt h5;clear h4
      go_wp2_with fail
      go_quiet (fail)
      go_wp2
      go_ret
      exact⟨by rw[hB.out];rfl,_,by first|exact HW.out|(rw[HW.out];exact drewN_two _ _ _)⟩
     ·have hG:=NEXT.out (ST.out.2 (by omega))
      have HG:=mh hG;clear hG;have f0:decide (x<0)=false:=dqf h0;have f1:decide (100000<x)=false:=dqf h1;have f2:decide (y < -1)=false:=dqf h2;have f3:decide (10<y)=false:=dqf h3;have f4:(y == -1)=true:=beq_iff_eq.2 h4;have g4:(y != -1)=false:=by show(!(y == -1))=_;rw[f4];rfl
      have f5:(((k' : Int)+1)==(D.length:Int) - 1)=true:=beq_iff_eq.2 h5;have f6:decide (x≤lx)=false:=dqf h6;clear h4 h5
      go_wp2_with fail
      go_quiet (fail)
      go_wp2
      go_roundw
      case rel=>exact⟨k' + 1+1,_,by omega,by go_num,HG.out,by first|exact HW.out|(rw[HW.out];exact drewN_two _ _ _)⟩
      case measure=>simp[intOf];omega
     ·have hB:=mh (rchk_bad hlt fun h=>absurd (ST.out.1 h) (by omega))
      have f0:decide (x<0)=false:=dqf h0;have f1:decide (100000<x)=false:=dqf h1;have f2:decide (y < -1)=false:=dqf h2;have f3:decide (10<y)=false:=dqf h3;have f4:(y == -1)=false:=beq_eq_false_iff_ne.2 h4;have g4:(y != -1)=true:=by show(!(y == -1))=_;rw[f4];rfl
      have f5:decide (x≤lx)=false:=dqf h5;have f6:decide (y<ly)=true:=dqt h6;clear h4
      go_wp2_with fail
      go_quiet (fail)
      go_wp2
      go_ret
      exact⟨by rw[hB.out];rfl,_,by first|exact HW.out|(rw[HW.out];exact drewN_two _ _ _)⟩
     ·have hG:=NEXT.out (ST.out.2 (by omega))
      have HG:=mh hG;clear hG;have f0:decide (x<0)=false:=dqf h0;have f1:decide (100000<x)=false:=dqf h1;have f2:decide (y < -1)=false:=dqf h2;have f3:decide (10<y)=false:=dqf h3;have f4:(y == -1)=false:=beq_eq_false_iff_ne.2 h4;have g4:(y != -1)=true:=by show(!(y == -1))=_;rw[f4];rfl
      have f5:decide (x≤lx)=false:=dqf h5;have f6:decide (y<ly)=false:=dqf h6;clear h4
      go_wp2_with fail
      go_quiet (fail)
      go_wp2
      go_roundw
      case rel=>exact⟨k' + 1+1,_,by omega,by go_num,HG.out,by first|exact HW.out|(rw[HW.out];exact drewN_two _ _ _)⟩
      case measure=>simp[intOf];omega
   ·obtain rfl:k=D.length:=by omega
    have hc:=mh (show Re.chk D=0 from Re.chk_zero.2 ⟨h1,by omega,HOK.out⟩);clear hok hlt hk
    go_wp2
    go_ret
    exact⟨by rw[hc.out];rfl,n,HW.out⟩
theorem refRstep_any (p:Option Addr)(D:List (Int × Int))(cap:Nat)(d f:Int)(w:World)(h:Pairs w p D) :
  Calls Tryz.prog 128 #[.slice p D.length cap,I O d,I O f] w fun e w' => e = .returned (I O (Re.stepV D d f))∧∃n,w' = w.drewN n:=by
 have hc:=refrcheck_any p D cap w h
 rcases step_cases D d f with⟨c,e⟩|⟨c,h1,e⟩|⟨c,h1,h2,e⟩|⟨c,h1,h2,hR,e⟩
 all_goals rw[c]at hc;rw[e]
 ·have HC:=mh hc
  clear hc h c e
  go_enter Tryz.func128,Tryz.ntmps128
  go_wp2_with (first|(go_at_call 123;refine(HC.out).mono ?_;rintro e w1 ⟨rfl,n1,rfl⟩))
  go_ret
  exact⟨rfl,n1,rfl⟩
 ·have HC:=mh hc
  clear hc h c e
  go_enter Tryz.func128,Tryz.ntmps128
  go_wp2_with (first|(go_at_call 123;refine(HC.out).mono ?_;rintro e w1 ⟨rfl,n1,rfl⟩)|(go_at_call 127;refine(refarea_any _ _).mono ?_;rintro e w' ⟨rfl,rfl⟩))
  go_ret
  exact⟨rfl,n1,rfl⟩
 ·have HC:=mh hc
  clear hc h c e
  go_enter Tryz.func128,Tryz.ntmps128
  go_wp2_with (first|(go_at_call 123;refine(HC.out).mono ?_;rintro e w1 ⟨rfl,n1,rfl⟩)|(go_at_call 127;refine(refarea_any _ _).mono ?_;rintro e w' ⟨rfl,rfl⟩))
  go_ret
  exact⟨rfl,n1,rfl⟩
 ·have HC:=mh hc
  have R:=mh hR;have H:=mh h;have d0:=Re.area_iff.1 h1;have f0:=Re.area_iff.1 h2;have h6:=hR.len;have hwd:IntKind.i64.wrap (d - f)=d - f:=by rw[IntKind.wrap_i64];omega
  clear hc h c e hR
  go_enter Tryz.func128,Tryz.ntmps128
  go_wp2_with (first|(go_at_call 123;refine(HC.out).mono ?_;rintro e w1 ⟨rfl,n1,rfl⟩)|(go_at_call 127;refine(refarea_any _ _).mono ?_;rintro e w' ⟨rfl,rfl⟩))
  go_loop [8,7] (fun i o=>∃k:Nat,k≤D.length∧i=I O k∧o=I O (Re.stepTo D d f k)) (fun i _=>D.length - (intOf i).toNat)
  case atStart=>exact⟨0,Nat.zero_le _,rfl,rfl⟩
  case round =>
   obtain⟨k,hk,rfl,rfl⟩:=hrel
   by_cases hlt:k<D.length
   ·obtain⟨b,off,x,y,rfl,hbl,hx,hy,hxy⟩:=H.out.get hlt
    obtain⟨X,M,g2,g3,g4,g5⟩:=hold_facts R.out hlt hxy.out d0 f0;have HS:=mh (show Re.stepTo D d f (k+1)=if Re.holds D d f k=true then (k:Int) else Re.stepTo D d f k from rfl)
    by_cases hh:X<M
    ·have hh' : decide (X<M)=true:=dqt hh
     have HE:=mh (show Re.stepTo D d f (k+1)=(k:Int) by rw[HS.out,g5,if_pos hh']);clear g5
     go_wp2
     go_round
     case rel=>exact⟨k+1,by omega,by go_num,by rw[HE.out]⟩
     case measure=>simp[intOf];omega
    ·have hh' : decide (X<M)=false:=dqf hh
     have HE:=mh (show Re.stepTo D d f (k+1)=Re.stepTo D d f k by rw[HS.out,g5,hh', if_neg (by decide)]);clear g5
     go_wp2
     go_round
     case rel=>exact⟨k+1,by omega,by go_num,by rw[HE.out]⟩
     case measure=>simp[intOf];omega
   ·obtain rfl:k=D.length:=by omega
    clear hlt hk
    go_wp2
    go_ret
    exact⟨rfl,n1,rfl⟩
theorem refpaid_any (p:Option Addr)(D:List (Int × Int))(cap:Nat)(d f:Int)(w:World)(h:Pairs w p D) :
  Calls Tryz.prog 106 #[.slice p D.length cap,I O d,I O f] w fun e w' => e = .returned (.tuple #[I O (Re.paidVal D d f),I O (Re.paidErr D d f)])∧∃n,w' = w.drewN n:=by
 have hc:=refrcheck_any p D cap w h
 rcases paid_cases D d f with⟨c,e,e2⟩|⟨c,h1,e,e2⟩|⟨c,h1,h2,e,e2⟩|⟨c,h1,h2,hR,e,e2⟩
 all_goals rw[c]at hc;rw[e,e2]
 ·have HC:=mh hc
  clear hc h c e e2
  go_enter Tryz.func106,Tryz.ntmps106
  go_wp2_with (first|(go_at_call 123;refine(HC.out).mono ?_;rintro e w1 ⟨rfl,n1,rfl⟩))
  go_ret2
  exact⟨rfl,n1,rfl⟩
 ·have HC:=mh hc
  clear hc h c e e2
  go_enter Tryz.func106,Tryz.ntmps106
  go_wp2_with (first|(go_at_call 123;refine(HC.out).mono ?_;rintro e w1 ⟨rfl,n1,rfl⟩)|(go_at_call 127;refine(refarea_any _ _).mono ?_;rintro e w' ⟨rfl,rfl⟩))
  go_ret2
  exact⟨rfl,n1,rfl⟩
 ·have HC:=mh hc
  clear hc h c e e2
  go_enter Tryz.func106,Tryz.ntmps106
  go_wp2_with (first|(go_at_call 123;refine(HC.out).mono ?_;rintro e w1 ⟨rfl,n1,rfl⟩)|(go_at_call 127;refine(refarea_any _ _).mono ?_;rintro e w' ⟨rfl,rfl⟩))
  go_ret2
  exact⟨rfl,n1,rfl⟩
 ·have HC:=mh hc
  have H:=mh h;have d0:=Re.area_iff.1 h1;have f0:=Re.area_iff.1 h2;have h6:=hR.len
  by_cases hdf:d≤f
  ·have hp:Re.paid D d f=d:=by unfold Re.paid;rw[if_pos hdf]
   rw[hp];clear hc h c e e2 hp hR
   go_enter Tryz.func106,Tryz.ntmps106
   go_wp2_with (first|(go_at_call 123;refine(HC.out).mono ?_;rintro e w1 ⟨rfl,n1,rfl⟩)|(go_at_call 127;refine(refarea_any _ _).mono ?_;rintro e w' ⟨rfl,rfl⟩))
   go_ret2
   exact⟨rfl,n1,rfl⟩
  have hs:=fun (W:World) (hP:Pairs W p D)=>refRstep_any p D cap d f W hP
  rw[show Re.stepV D d f=Re.step D d f by unfold Re.stepV;rw[if_neg];rw[c,h1,h2];simp]at hs
  rcases Re.step_spec (l:=D) (d:=d) (f:=f) with⟨es, -⟩|⟨n,es,hn, -, -⟩
  ·have hp:Re.paid D d f=f:=by unfold Re.paid;rw[if_neg hdf,if_pos (by omega)]
   rw[hp];rw[es]at hs;have HS:=mh hs;clear hc h c e e2 hp hs es hR
   go_enter Tryz.func106,Tryz.ntmps106
   go_wp2_with (first|(go_at_call 123;refine(HC.out).mono ?_;rintro e w1 ⟨rfl,n1,rfl⟩)|(go_at_call 127;refine(refarea_any _ _).mono ?_;rintro e w' ⟨rfl,rfl⟩)|(go_at_call 128;refine(HS.out _ (H.out.below (drewN_below _ n1))).mono ?_;rintro e w2 ⟨rfl,n2,rfl⟩))
   go_ret2
   exact⟨rfl,_,rfl⟩
  ·obtain⟨b,off,x,y,rfl,hbl,hx,hy,hxy⟩:=H.out.get hn
   have ht:=ti_eq hxy.out;rw[es]at hs;have HS:=mh hs;have hn0:(0:Int)≤(n:Int):=inn _;have hn1:(n:Int)<(D.length:Int):=by omega
   have hnB:decide ((n:Int)<0)=false:=dqf (by omega)
   by_cases hy1:y = -1
   ·have hp:Re.paid D d f=0:=by unfold Re.paid;rw[if_neg hdf,if_neg (by omega),es,Int.toNat_natCast,ht,if_pos hy1]
    rw[hp];have hyB:(y == -1)=true:=beq_iff_eq.2 hy1;clear hc h c e e2 hp hs es hR ht hy1
    go_enter Tryz.func106,Tryz.ntmps106
    go_wp2_with (first|(go_at_call 123;refine(HC.out).mono ?_;rintro e w1 ⟨rfl,n1,rfl⟩)|(go_at_call 127;refine(refarea_any _ _).mono ?_;rintro e w' ⟨rfl,rfl⟩)|(go_at_call 128;refine(HS.out _ (H.out.below (drewN_below _ n1))).mono ?_;rintro e w2 ⟨rfl,n2,rfl⟩))
    go_ret2
    exact⟨rfl,_,rfl⟩
   ·have hp:Re.paid D d f=max 0 (f - y*(d - f)):=by unfold Re.paid;rw[if_neg hdf,if_neg (by omega),es,Int.toNat_natCast,ht,if_neg hy1]
    rw[hp];have hyB:(y == -1)=false:=beq_eq_false_iff_ne.2 hy1;have hyb:0≤y∧y≤10:=by
     have:=hR.ti0 hn;rw[ht]at this;omega
    have m0:0≤y*(d - f):=Int.mul_nonneg hyb.1 (by omega);have m1:y*(d - f)≤10*268435456:=Int.mul_le_mul hyb.2 (by omega) (by omega) (by omega);have hwd:IntKind.i64.wrap (d - f)=d - f:=by rw[IntKind.wrap_i64];omega
    obtain⟨M,hM⟩:∃M,y*(d - f)=M:=⟨_,rfl⟩;have hwm:IntKind.i64.wrap (y*(d - f))=M:=by rw[hM]at m0 m1 ⊢;rw[IntKind.wrap_i64];omega
    rw[hM]at m0 m1 ⊢;have hws:IntKind.i64.wrap (f - M)=f - M:=by rw[IntKind.wrap_i64];omega
    clear hc h c e e2 hp hs es hR ht hM
    go_enter Tryz.func106,Tryz.ntmps106
    go_wp2_with (first|(go_at_call 123;refine(HC.out).mono ?_;rintro e w1 ⟨rfl,n1,rfl⟩)|(go_at_call 127;refine(refarea_any _ _).mono ?_;rintro e w' ⟨rfl,rfl⟩)|(go_at_call 128;refine(HS.out _ (H.out.below (drewN_below _ n1))).mono ?_;rintro e w2 ⟨rfl,n2,rfl⟩))
    go_ret2
    exact⟨rfl,_,rfl⟩
open Go.Shelf
theorem stepCall {P:Program}{ops:Array Oper}{o:Oper}{a:Act}{w:World}{K:Act→World→Prop}{Q:Exit→Act→World→Prop}{E:Prop}(hgd:o.guard=none)(f:FuncId)(xs:Array Operand)(ts:Array TypeId)(args:Array Value)
  (ho:o.op = .call { callee := .value (.func f),args:=xs,argTypes:=ts }) (he:∀args w,(callFunc f args).run P w = .ok (.enter f args) w) (ha:xs.map a.eval=args) {R:Ending→World→Prop} (hc:Calls P f args w R)
  (h:∀e w', R e w' → ∃v,e = .returned v∧K (a.put o.dst v) w'):if Region.wanted o (yielded ops a.tmps)=true then Oper.wp P o a w K Q else E:=by
 have hw:Region.wanted o (yielded ops a.tmps)=true:=by simp[Region.wanted,hgd]
 rw[if_pos hw];have hrun:(execOp a.eval o).run P w = .ok (.enter f args) w:=by
  subst ha
  simp[execOp,ho,resolve,invoke,Act.eval,Deferred.ofValue,he]
 unfold Oper.wp;rw[hrun,Oper.upon_enter];refine hc.mono fun e w' hR=>?_
 obtain⟨v,rfl,k⟩:=h e w' hR;exact k
open Go
section
variable {P:Program} {ops:Array Oper} {Q:Exit→Act→World→Prop} {md:Region.Mode} {S:World→Prop} {k0:Nat}
def waitsOn (md:Region.Mode) (ops:Array Oper) (j i:Nat):Bool :=
 match ops[j]? with
 | some o=>o.after.any fun e=>Region.binds md e&&e.on==i
 | none=>false
theorem waitsOn_ready {i j:Nat}{listed:Array Bool}(h:waitsOn md ops j i=true)(hj:j∈Region.ready md ops listed):listed.getD i false=true:=by
 obtain⟨_,o,ho,hall⟩:=mem_ready.1 hj;unfold waitsOn at h;rw[ho]at h;simp only[Array.any_eq_true', Bool.and_eq_true,beq_iff_eq]at h;obtain⟨e,he,hb,rfl⟩:=h;exact hall e he hb
theorem unlisted {i:Nat}{listed:Array Bool}(h:listed.getD i true=false):¬listed.getD i false=true:=by
 intro h2
 rcases Nat.lt_or_ge i listed.size with h' | h'
 ·simp[h']at h h2;rw[h]at h2;cases h2
 ·simp[Array.getElem?_eq_none h']at h2
def wpAnyK (P:Program) (md:Region.Mode) (ops:Array Oper) (Q:Exit→Act→World→Prop) (S:World→Prop) (k0:Nat):Nat→Array Bool→Act→World→Prop
 | 0,listed,a,w=>Region.ready md ops listed = []∧Q .normal a w
 | fuel+1,listed,a,w=>(Region.ready md ops listed = []→Q .normal a w)∧∀i∈Region.ready md ops listed,
   (i=k0→wpOp P ops Q i (fun a' w' => wpAny P md ops Q fuel (listed.setIfInBounds i true) a' w') a w) ∧
   (i≠k0→wpOp P ops Q i (fun a' w' => S w' ∧ wpAnyK P md ops Q S k0 fuel (listed.setIfInBounds i true) a' w') a w)
theorem wpAny_of_K:∀(fuel:Nat) (listed:Array Bool)(a:Act)(w:World),wpAnyK P md ops Q S k0 fuel listed a w→wpAny P md ops Q fuel listed a w
 | 0,_,_,_,h=>h
 | fuel+1,_,_,_,h=>⟨h.1,fun i hi=>by
   by_cases e:i=k0
   ·exact(h.2 i hi).1 e
   ·exact wpOp_mono (fun a' w' h' => wpAny_of_K fuel _ a' w' h'.2) ((h.2 i hi).2 e)⟩
theorem wpAnyK_first {i m:Nat}{oi:Oper}{v:Value}(hi:ops[i]?=some oi)(hsel:∀(j:Nat) (o:Oper) cs b,ops[j]?=some o→o.op ≠ .select cs b)
  (hQ:∀c a w,Q (.panic c) (a.put oi.dst v) w→Q (.panic c) a w) (hk:i≠k0) (hm:waitsOn md ops k0 m=true) :
  ∀(fuel:Nat) (listed:Array Bool) (a:Act) (w:World),
    (∀j oj,ops[j]?=some oj→j≠i→listed.getD j true=false→(∀e∈oj.after,Region.binds md e=true→e.on≠i)→oi.apart ops oj=true) →
    (m=i∨(listed.getD m true=false∧waitsOn md ops m i=true)) →
    i∈Region.ready md ops listed→YieldsIf P ops S oi v a→S w →
    wpAnyK P md ops Q S k0 fuel (listed.setIfInBounds i true) (a.put oi.dst v) w→wpAnyK P md ops Q S k0 (fuel+1) listed a w:=by
 intro fuel
 induction fuel with
 | zero =>
   intro listed a w _ _ hr hy hS H;refine⟨fun h=>(by rw[h]at hr;cases hr),fun j hj=>?_⟩
   by_cases hji:j=i
   ·subst hji;exact⟨fun e=>absurd e hk,fun _=>hy.wpOp hi hS ⟨hS,H⟩⟩
   ·have:=ready_mono hj hji
    rw[H.1]at this
    cases this
 | succ fuel ih =>
   intro listed a w hfree hmi hr hy hS H;refine⟨fun h=>(by rw[h]at hr;cases hr),fun j hj=>?_⟩
   by_cases hji:j=i
   ·subst hji;exact⟨fun e=>absurd e hk,fun _=>hy.wpOp hi hS ⟨hS,H⟩⟩
   have hiun:=unlisted (mem_ready.1 hr).1;have hjk:j≠k0:=by
    rintro rfl;have h1:=waitsOn_ready hm hj
    rcases hmi with rfl|⟨h2,_⟩
    ·exact hiun h1
    ·exact unlisted h2 h1
   refine⟨fun e=>absurd e hjk,fun _=>?_⟩
   have h1:=(H.2 j (ready_mono hj hji)).2 hjk;obtain⟨hjun,oj,hoj,hall⟩:=mem_ready.1 hj;have hnot:∀e∈oj.after,Region.binds md e=true→e.on≠i:=fun e he hb heq=>hiun (heq▸hall e he hb)
   have h2:=wpOp_putIf hoj (hfree j oj hoj hji hjun hnot) (fun cs b=>hsel i oi cs b hi) (fun cs b=>hsel j oj cs b hoj) hQ hy h1;have hfree' : ∀k ok,ops[k]?=some ok→k≠i→(listed.setIfInBounds j true).getD k true=false →
     (∀e∈ok.after,Region.binds md e=true→e.on≠i)→oi.apart ops ok=true:=fun k ok hk hki hun hno=>by
    refine hfree k ok hk hki ?_ hno
    by_cases hjk:j=k
    ·subst hjk;exact hjun
    ·rw[getD_set_ne true hjk]at hun;exact hun
   have hmi' : m=i∨((listed.setIfInBounds j true).getD m true=false∧waitsOn md ops m i=true):=by
    rcases hmi with h|⟨h3,h4⟩
    ·exact .inl h
    ·refine .inr ⟨?_,h4⟩
     have hjm:j≠m:=by rintro rfl;exact hiun (waitsOn_ready h4 hj)
     rw[getD_set_ne true hjm];exact h3
   refine wpOp_mono (fun a' w' h3=>⟨h3.2.1,ih (listed.setIfInBounds j true) a' w' hfree' hmi' (ready_mono hr (Ne.symm hji)) h3.1 h3.2.1 ?_⟩) h2
   rw[Array.setIfInBounds_comm _ _ hji];exact h3.2.2
theorem wpAnyK_take {i:Nat}(m:Nat){oi:Oper}{v:Value}{fuel:Nat}{listed:Array Bool}{a:Act}{w:World}(hi:ops[i]?=some oi)
  (hs:Region.noSelect ops=true) (hf:Region.free md ops listed i=true) (hr:(Region.ready md ops listed).contains i=true)
  (hk:(i != k0&&waitsOn md ops k0 m&&(m==i||(!listed.getD m true&&waitsOn md ops m i)))=true)
  (hQ:∀c a w,Q (.panic c) (a.put oi.dst v) w→Q (.panic c) a w) (hy:YieldsIf P ops S oi v a) (hS:S w)
  (h:wpAnyK P md ops Q S k0 fuel (listed.setIfInBounds i true) (a.put oi.dst v) w):wpAnyK P md ops Q S k0 (fuel+1) listed a w:=by
 simp only[Bool.and_eq_true,bne_iff_ne,Bool.or_eq_true,beq_iff_eq,Bool.not_eq_true']at hk;exact wpAnyK_first hi (Region.noSelect_spec hs) hQ hk.1.1 hk.1.2 fuel listed a w (Region.free_spec hi hf) hk.2 (by simpa using hr) hy hS h
theorem wpAnyK_one {i:Nat}{o:Oper}{fuel:Nat}{listed:Array Bool}{a:Act}{w:World}(hr:Region.ready md ops listed = [i])(hk:(i==k0)=false)(ho:ops[i]?=some o)
  (h:∀K' : Act→World→Prop,Shut (∀a w,S w→wpAnyK P md ops Q S k0 fuel (listed.setIfInBounds i true) a w→K' a w)→if Region.wanted o (yielded ops a.tmps)=true then Oper.wp P o a w K' Q else K' (a.put o.dst undef) w) :
  wpAnyK P md ops Q S k0 (fuel+1) listed a w :=
 ⟨fun h0=>(by rw[hr]at h0;cases h0),fun j hj=>by
  rw[hr]at hj;obtain rfl:=List.mem_singleton.1 hj
  exact⟨fun e=>(by rw[e]at hk;simp at hk),fun _=>wpOp_step ho fun K' hK=>h K' fun a w hS hW=>hK a w ⟨hS,hW⟩⟩⟩
theorem wpAnyK_last {o:Oper}{fuel:Nat}{listed:Array Bool}{a:Act}{w:World}(hr:Region.ready md ops listed = [k0])(ho:ops[k0]?=some o)
  (h:∀K' : Act→World→Prop,Shut (∀a w,wpAnyH P md ops Q (fun _=>True) fuel (listed.setIfInBounds k0 true) a w→K' a w)→if Region.wanted o (yielded ops a.tmps)=true then Oper.wp P o a w K' Q else K' (a.put o.dst undef) w) :
  wpAnyK P md ops Q S k0 (fuel+1) listed a w :=
 ⟨fun h0=>(by rw[hr]at h0;cases h0),fun j hj=>by
  rw[hr]at hj;obtain rfl:=List.mem_singleton.1 hj
  exact⟨fun _=>wpOp_step ho fun K' hK=>h K' fun a w hW=>hK a w (wpAny_of_held _ _ _ _ hW),fun e=>absurd rfl e⟩⟩
theorem wp_region_K {id:Nat}{a:Act}{w:World}(S:World→Prop)(k0:Nat)(hm:P.follows .mixedOrders=true)(hS:S w.drew)
  (h:S w.drew→wpAnyK P .any ops Q S k0 ops.size (Array.replicate ops.size false) a w.drew):(Code.region id ops true).wp P Q a w :=
 wp_region_any hm (wpAny_of_K _ _ _ _ (h hS))
end
section
variable {P:Program} {ops:Array Oper} {Q:Exit→Act→World→Prop} {md:Region.Mode} {S:World→Prop} {k0:Nat}
theorem wpAnyH_of_any:∀(fuel:Nat) (listed:Array Bool)(a:Act)(w:World),wpAny P md ops Q fuel listed a w→wpAnyH P md ops Q (fun _=>True) fuel listed a w
 | 0,_,_,_,h=>h
 | fuel+1,_,_,_,h=>⟨h.1,fun i hi=>wpOp_mono (fun a' w' h' => ⟨trivial,wpAnyH_of_any fuel _ a' w' h'⟩) (h.2 i hi)⟩
end
end Go.Proofs.YtljibgchickcpaaGreatDoor
namespace Go.Proofs.YtljibgchickcpaaGreatDoor
open Go
section
variable {P:Program} {ops:Array Oper} {Q:Exit→Act→World→Prop} {md:Region.Mode} {S:World→Prop} {k0:Nat}
theorem wpAnyK_pureFirst {i:Nat}{oi:Oper}{v:Value}(hi:ops[i]?=some oi)(hsel:∀(j:Nat) (o:Oper) cs b,ops[j]?=some o→o.op ≠ .select cs b)
  (hQ:∀c a w,Q (.panic c) (a.put oi.dst v) w→Q (.panic c) a w) (hk:i≠k0) :
  ∀(fuel:Nat) (listed:Array Bool) (a:Act) (w:World),
    (∀j oj,ops[j]?=some oj→j≠i→listed.getD j true=false→(∀e∈oj.after,Region.binds md e=true→e.on≠i)→oi.apart ops oj=true) →
    i∈Region.ready md ops listed→YieldsIf P ops (fun _=>True) oi v a→S w →
    wpAnyK P md ops Q S k0 fuel (listed.setIfInBounds i true) (a.put oi.dst v) w→wpAnyK P md ops Q S k0 (fuel+1) listed a w:=by
 intro fuel
 induction fuel with
 | zero =>
   intro listed a w _ hr hy hS H;refine⟨fun h=>(by rw[h]at hr;cases hr),fun j hj=>?_⟩
   by_cases hji:j=i
   ·subst hji;exact⟨fun e=>absurd e hk,fun _=>hy.wpOp hi trivial ⟨hS,H⟩⟩
   ·have:=ready_mono hj hji
    rw[H.1]at this
    cases this
 | succ fuel ih =>
   intro listed a w hfree hr hy hS H;refine⟨fun h=>(by rw[h]at hr;cases hr),fun j hj=>?_⟩
   by_cases hji:j=i
   ·subst hji;exact⟨fun e=>absurd e hk,fun _=>hy.wpOp hi trivial ⟨hS,H⟩⟩
   have hiun:=unlisted (mem_ready.1 hr).1;obtain⟨hjun,oj,hoj,hall⟩:=mem_ready.1 hj;have hnot:∀e∈oj.after,Region.binds md e=true→e.on≠i:=fun e he hb heq=>hiun (heq▸hall e he hb)
   have hfree' : ∀k ok,ops[k]?=some ok→k≠i→(listed.setIfInBounds j true).getD k true=false →
     (∀e∈ok.after,Region.binds md e=true→e.on≠i)→oi.apart ops ok=true:=fun k ok hk hki hun hno=>by
    refine hfree k ok hk hki ?_ hno
    by_cases hjk:j=k
    ·subst hjk;exact hjun
    ·rw[getD_set_ne true hjk]at hun;exact hun
   by_cases e:j=k0
   ·refine⟨fun _=>?_,fun h=>absurd e h⟩
    have h1:=(H.2 j (ready_mono hj hji)).1 e;have h2:=wpOp_putIf hoj (hfree j oj hoj hji hjun hnot) (fun cs b=>hsel i oi cs b hi) (fun cs b=>hsel j oj cs b hoj) hQ hy h1;refine wpOp_mono (fun a' w' h3=>?_) h2;refine wpAny_of_held _ _ _ _ (wpAnyH_first hi hsel hQ fuel (listed.setIfInBounds j true) a' w' hfree' (ready_mono hr (Ne.symm hji)) h3.1 trivial ?_);rw[Array.setIfInBounds_comm _ _ hji];exact wpAnyH_of_any _ _ _ _ h3.2
   ·refine⟨fun h=>absurd h e,fun _=>?_⟩
    have h1:=(H.2 j (ready_mono hj hji)).2 e;have h2:=wpOp_putIf hoj (hfree j oj hoj hji hjun hnot) (fun cs b=>hsel i oi cs b hi) (fun cs b=>hsel j oj cs b hoj) hQ hy h1;refine wpOp_mono (fun a' w' h3=>⟨h3.2.1,ih (listed.setIfInBounds j true) a' w' hfree' (ready_mono hr (Ne.symm hji)) h3.1 h3.2.1 ?_⟩) h2;rw[Array.setIfInBounds_comm _ _ hji];exact h3.2.2
theorem wpAnyK_pure {i:Nat}{oi:Oper}{v:Value}{fuel:Nat}{listed:Array Bool}{a:Act}{w:World}(hi:ops[i]?=some oi)
  (hs:Region.noSelect ops=true) (hf:Region.free md ops listed i=true) (hr:(Region.ready md ops listed).contains i=true) (hk:(i != k0)=true)
  (hQ:∀c a w,Q (.panic c) (a.put oi.dst v) w→Q (.panic c) a w) (hy:YieldsIf P ops (fun _=>True) oi v a) (hS:S w)
  (h:wpAnyK P md ops Q S k0 fuel (listed.setIfInBounds i true) (a.put oi.dst v) w):wpAnyK P md ops Q S k0 (fuel+1) listed a w :=
 wpAnyK_pureFirst hi (Region.noSelect_spec hs) hQ (by simpa using hk) fuel listed a w (Region.free_spec hi hf) (by simpa using hr) hy hS h
end
end Go.Proofs.YtljibgchickcpaaGreatDoor
namespace Go.Proofs.YtljibgchickcpaaGreatDoor
open Go.RowKit Sc As
section
variable {w w' : World} {t:Nat} {r:RY} {f:RF} {va vr:Value}
end
def Apart (u v:Value):Prop:=∀g,u.ownBlock=some g→v.ownBlock≠some g
end Go.Proofs.YtljibgchickcpaaGreatDoor
namespace Go.Proofs.YtljibgchickcpaaGreatDoor
theorem tkG {P:Program}{md:Region.Mode}{ops:Array Oper}{Q:Exit→Act→World→Prop}{S:World→Prop}{k0 fuel:Nat}{listed:Array Bool}{a:Act}{w:World}{v:Value}{op:Op}{ty:TypeId}{ps:String}{af:Array Edge}{gd:Option (Nat × Bool)}(i s:Nat){b:Act}{l:Array Bool}(h:wpAnyK P md ops Q S k0 fuel l b w)(m:Nat:=i)
 (hi:ops[i]?=some ⟨some s,op,ty,ps,af,gd⟩:=by rfl) (hs:Region.noSelect ops=true:=by kernel_rfl) (hf:Region.free md ops listed i=true:=by kernel_rfl) (hr:(Region.ready md ops listed).contains i=true:=by kernel_rfl)
 (hk:(i != k0&&waitsOn md ops k0 m&&(m==i||(!listed.getD m true&&waitsOn md ops m i)))=true:=by kernel_rfl)
 (hQ:∀c a w,Q (.panic c) (a.put (some s) v) w→Q (.panic c) a w:=by exact fun _ _ _ h=>h)
 (hw:Region.wanted ⟨some s,op,ty,ps,af,gd⟩ (yielded ops a.tmps)=true:=by kernel_rfl)
 (hy:∀w,S w→(execOp a.eval ⟨some s,op,ty,ps,af,gd⟩).run P w = .ok (.value v) w:=by intro W0 hSw;(try dsimp only at hSw);go_simp;try with_reducible rfl)
 (hS:S w:=by assumption)
 (hb:a.put (some s) v=b:=by (try simp only[Act.put,mnA,mnB,mnC]);try exact rfl)
 (hl:listed.setIfInBounds i true=l:=by (try simp only[mnA,mnB,mnC]);try exact rfl):wpAnyK P md ops Q S k0 (fuel+1) listed a w:=by
 subst hb;subst hl;exact wpAnyK_take m hi hs hf hr hk hQ (Or.inl ⟨hw,hy⟩) hS h
end Go.Proofs.YtljibgchickcpaaGreatDoor
