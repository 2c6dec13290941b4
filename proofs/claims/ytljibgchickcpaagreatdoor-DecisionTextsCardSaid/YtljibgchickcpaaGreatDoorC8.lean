/- Packed. -/
import Derived.Test.YtljibgchickcpaaGreatDoorC7
set_option maxHeartbeats 4000000
open Go.Value renaming int → I
open Go.IntKind renaming i64 → O
namespace Go.Proofs.YtljibgchickcpaaGreatDoor.As
open Sc Go.RowKit
/-! ### amounts by brackets are never negative -/
theorem amt_nonneg {s:Sch}(h:one17 s=0)(p:Int):0≤amtV s p:=by
 unfold amtV
 split
 ·omega
 ·have hb:=(one_parts h).2.2.2.2.2.1
  have:∀k,k≤s.br.length→0≤amt s.br p k:=by
   intro k
   induction k with
   | zero=>intro _;simp[amt]
   | succ k ih =>
     intro hk;have:=ih (by omega);unfold amt;rw[List.getElem?_eq_getElem (by omega)];simp only;have r:=(br_right (show k<s.br.length by omega) (brAll_mono (show k+1≤s.br.length by omega) (brB_all hb))).2.2.1;have:=Int.mul_nonneg (show(0:Int)≤max 0 (min p s.br[k].up - upB s.br k) by omega) r;omega
  have:=this _ mle;omega
theorem award_fine {l:YLaw}{f:FarmF}(hl:YOk l)(hf:FarmOk l f){k:Nat}{s:Sch}(hk:l.sch[k]?=some s):AwOk (award l f k s) :=
 award_ok hl hf hk fun p _ _=>amt_nonneg (hl.one hk) p
theorem awards_ok {l:YLaw}{f:FarmF}(hl:YOk l)(hf:FarmOk l f){a:Awd}(ha:a∈awards0 l f):AwOk a∧a.farm=f.farm∧a.capped=0∧a.due=0:=by
 obtain⟨k,s,_,hk,_,rfl⟩:=mem_awardsN.1 ha;exact⟨award_fine hl hf hk,rfl,rfl,rfl⟩
/-! ### reasons -/
theorem mem_rsnAt {l:YLaw}{x:LineF}{i n:Nat}{r:Rsn}:r∈rsnAt l x i n↔∃k s,k<n∧l.sch[k]?=some s∧namesB x s=true∧(det (factOf x k) l.width).2≠0∧r=⟨i,s.num,(det (factOf x k) l.width).2⟩:=by
 induction n with
 | zero=>simp[rsnAt]
 | succ n ih =>
   unfold rsnAt rsStep;rw[List.mem_append,ih]
   constructor
   ·rintro (⟨k,s,h1,h⟩|h)
    ·exact⟨k,s,by omega,h⟩
    ·cases e:l.sch[n]? with
     | none=>rw[e]at h;simp at h
     | some s =>
       rw[e]at h;simp only at h
       split at h
       ·rename_i hs
        exact⟨n,s,by omega,e,hs.1,hs.2,List.mem_singleton.1 h⟩
       ·simp at h
   ·rintro ⟨k,s,h1,h2,h3,h4,h5⟩
    by_cases hk:k<n
    ·exact .inl ⟨k,s,hk,h2,h3,h4,h5⟩
    ·obtain rfl:k=n:=by omega
     right
     rw[h2];simp only;rw[if_pos ⟨h3,h4⟩];exact List.mem_singleton.2 h5
theorem mem_reasonsN {l:YLaw}{f:FarmF}{n:Nat}{r:Rsn}:r∈reasonsN l f n↔∃i x,i<n∧f.lines[i]?=some x∧r∈rsnAt l x i l.sch.length:=by
 induction n with
 | zero=>simp[reasonsN]
 | succ n ih =>
   unfold reasonsN rsLine;rw[List.mem_append,ih]
   constructor
   ·rintro (⟨i,x,h1,h⟩|h)
    ·exact⟨i,x,by omega,h⟩
    ·cases e:f.lines[n]? with
     | none=>rw[e]at h;simp at h
     | some x=>rw[e]at h;exact⟨n,x,by omega,e,h⟩
   ·rintro ⟨i,x,h1,h2,h3⟩
    by_cases hi:i<n
    ·exact .inl ⟨i,x,hi,h2,h3⟩
    ·obtain rfl:i=n:=by omega
     right;rw[h2];exact h3
/-! ### the error of a farm -/
theorem tim_len (l:YLaw)(f:FarmF):(timelies (awards0 l f)).length≤l.sch.length:=by
 unfold timelies;rw[List.length_map];exact awardsN_len l f _
theorem YOk.len {l:YLaw}(h:YOk l):l.sch.length≤16:=(lawOk h.sch).len
theorem farmErr_cases {l:YLaw}{F:List FarmF}(h:FOk l F){f:FarmF}(hf:f∈F):farmErr l f=0∨farmErr l f=67:=by
 unfold farmErr;rw[if_neg (by rw[(h.one hf).chk];decide)];unfold Ce.farmErr;have:=tim_len l f;have:=h.law.len;rw[if_neg (by rw[Ce.chk_zero.2 h.law.deg];decide),if_neg (by rw[En.money_iff.2 h.law.cap];decide),if_neg (by omega)];unfold Ce.sumErr
 split
 ·exact .inr rfl
 ·exact .inl rfl
theorem allErr_cases {l:YLaw}{F:List FarmF}(h:FOk l F):∀G:List FarmF,(∀g∈G,g∈F)→allErr l G=0∨allErr l G=67
 | [],_ => .inl rfl
 | g::G,hG=>by
   unfold allErr
   split
   ·rcases farmErr_cases h (hG g List.mem_cons_self) with e|e
    ·rename_i hne;exact absurd e hne
    ·exact .inr e
   ·exact allErr_cases h G fun x hx=>hG x (List.mem_cons_of_mem _ hx)
theorem allErr_append {l:YLaw}:∀(G H:List FarmF),allErr l (G++H)=if allErr l G≠0 then allErr l G else allErr l H
 | [],H=>by simp[allErr]
 | g::G,H=>by
   show(if farmErr l g≠0 then farmErr l g else allErr l (G++H))=if (if farmErr l g≠0 then farmErr l g else allErr l G)≠0 then (if farmErr l g≠0 then farmErr l g else allErr l G) else allErr l H
   by_cases h:farmErr l g≠0
   ·rw[if_pos h,if_pos h,if_pos h]
   ·rw[if_neg h,if_neg h,allErr_append G H]
/-! ### what is capped -/
theorem farm_fine {l:YLaw}{f:FarmF}(he:farmErr l f=0):Ce.Fine l.deg l.cap (timelies (awards0 l f)):=by
 unfold farmErr at he
 split at he
 ·rename_i h;exact absurd he h
 ·exact Ce.fine_of he
theorem setCapped_len (A:List Awd)(c:List Int):(setCapped A c).length=A.length:=by unfold setCapped;simp
theorem setCapped_at (A:List Awd)(c:List Int)(i:Nat)(h:i<(setCapped A c).length)(h' : i<A.length):(setCapped A c)[i]={ A[i] with capped:=c.getD i 0 }:=by
 simp[setCapped]
theorem setDue_len (A:List Awd)(c:List Int):(setDue A c).length=A.length:=by unfold setDue;simp
theorem setDue_at (A:List Awd)(c:List Int)(i:Nat)(h:i<(setDue A c).length)(h' : i<A.length):(setDue A c)[i]={ A[i] with due:=c.getD i 0 }:=by
 simp[setDue]
theorem tim_getD (A:List Awd)(i:Nat)(h:i<A.length):(timelies A).getD i 0=A[i].timely:=by
 unfold timelies;simp[h]
theorem cap_getD (A:List Awd)(i:Nat)(h:i<A.length):(cappeds A).getD i 0=A[i].capped:=by
 unfold cappeds;simp[h]
structure AwFine (l:YLaw) (f:FarmF) (a:Awd):Prop where
 ok:AwOk a
 farm:a.farm=f.farm
 c0:0≤a.capped
 ct:a.capped≤a.timely
 due:a.due=0
theorem farmAw_len {l:YLaw}{f:FarmF}(he:farmErr l f=0):(farmAw l f).length=(awards0 l f).length:=by
 unfold farmAw;rw[if_neg (by omega),setCapped_len]
theorem farmAw_at {l:YLaw}{f:FarmF}(he:farmErr l f=0)(i:Nat)(h:i<(farmAw l f).length)(h' : i<(awards0 l f).length) :
  (farmAw l f)[i]={ (awards0 l f)[i] with capped:=(Ce.farm l.deg l.cap (timelies (awards0 l f))).getD i 0 }:=by
 have e:farmAw l f=setCapped (awards0 l f) (Ce.farm l.deg l.cap (timelies (awards0 l f))):=by unfold farmAw;rw[if_neg (by omega)]
 have:∀(X:List Awd) (hX:i<X.length),X=setCapped (awards0 l f) (Ce.farm l.deg l.cap (timelies (awards0 l f)))→X[i]={ (awards0 l f)[i] with capped:=(Ce.farm l.deg l.cap (timelies (awards0 l f))).getD i 0 }:=by
  rintro X hX rfl;exact setCapped_at _ _ i hX h'
 exact this _ h e
theorem farmAw_fine {l:YLaw}{f:FarmF}(hl:YOk l)(hf:FarmOk l f){a:Awd}(ha:a∈farmAw l f):AwFine l f a:=by
 by_cases he:farmErr l f=0
 ·obtain⟨i,hi,rfl⟩:=List.mem_iff_getElem.1 ha
  have hi' : i<(awards0 l f).length:=by rw[← farmAw_len he];exact hi
  rw[farmAw_at he i hi hi'];obtain⟨h1,h2,h3,h4⟩:=awards_ok hl hf (List.getElem_mem hi');have hb:=(farm_fine he).farm_bd i (by unfold timelies;rw[List.length_map];exact hi');rw[tim_getD _ i hi']at hb;exact⟨⟨h1.n0,h1.nd,h1.d1,h1.p0,h1.pn,h1.r0,h1.r1,h1.t0,h1.tr⟩,h2,hb.1,hb.2,h4⟩
 ·unfold farmAw at ha
  rw[if_pos he]at ha
  cases ha
theorem farmAw_asc {l:YLaw}(hl:YOk l)(f:FarmF):(farmAw l f).Pairwise fun a b=>a.scheme<b.scheme:=by
 by_cases he:farmErr l f=0
 ·rw[List.pairwise_iff_getElem]
  intro i j hi hj hij;have hi' : i<(awards0 l f).length:=by rw[← farmAw_len he];exact hi
  have hj' : j<(awards0 l f).length:=by rw[← farmAw_len he];exact hj
  rw[farmAw_at he i hi hi', farmAw_at he j hj hj'];exact List.pairwise_iff_getElem.1 (awardsN_asc hl f l.sch.length) i j hi' hj' hij
 ·unfold farmAw
  rw[if_pos he];exact List.Pairwise.nil
/-! ### all farms -/
theorem mem_allAw {l:YLaw}{F:List FarmF}{a:Awd}:a∈allAw l F↔∃f∈F,a∈farmAw l f:=by unfold allAw;exact List.mem_flatMap
def awLt (a b:Awd):Prop:=a.farm<b.farm∨a.farm=b.farm∧a.scheme<b.scheme
theorem asc_pairwise {F:List FarmF}(h:∀i (h:i+1<F.length),F[i].farm<F[i+1].farm):F.Pairwise fun f g=>f.farm<g.farm:=by
 rw[List.pairwise_iff_getElem];intro i j hi hj hij;obtain⟨k,rfl⟩:∃k,j=i+1+k:=⟨j - (i+1),by omega⟩;clear hij
 induction k with
 | zero=>exact h i hj
 | succ k ih =>
   have h1:=ih (by omega);have h2:=h (i+1+k) hj;exact Int.lt_trans h1 h2
theorem allAw_asc {l:YLaw}(hl:YOk l):∀{F:List FarmF},(∀f∈F,FarmOk l f)→(F.Pairwise fun f g=>f.farm<g.farm)→(allAw l F).Pairwise awLt
 | [],_,_=>List.Pairwise.nil
 | f::F,hF,hp=>by
   rw[List.pairwise_cons]at hp
   show(farmAw l f++allAw l F).Pairwise awLt
   rw[List.pairwise_append];have hf:=hF f List.mem_cons_self;refine⟨(farmAw_asc hl f).imp_of_mem fun ha hb h => .inr ⟨?_,h⟩,allAw_asc hl (fun g hg=>hF g (List.mem_cons_of_mem _ hg)) hp.2,fun a ha b hb => .inl ?_⟩
   ·rw[(farmAw_fine hl hf ha).farm,(farmAw_fine hl hf hb).farm]
   ·obtain⟨g,hg,hb⟩:=mem_allAw.1 hb
    rw[(farmAw_fine hl hf ha).farm,(farmAw_fine hl (hF g (List.mem_cons_of_mem _ hg)) hb).farm];exact hp.1 g hg
theorem farmAw_le (l:YLaw)(f:FarmF):(farmAw l f).length≤l.sch.length:=by
 by_cases he:farmErr l f=0
 ·rw[farmAw_len he];exact awardsN_len l f _
 ·unfold farmAw;rw[if_pos he];simp
theorem allAw_le (l:YLaw):∀F:List FarmF,(allAw l F).length≤F.length*l.sch.length
 | []=>by simp[allAw]
 | f::F=>by
   have h1:=farmAw_le l f;have h2:=allAw_le l F
   show(farmAw l f++allAw l F).length≤_
   rw[lap,List.length_cons,Nat.add_mul];omega
theorem all_good {l:YLaw}{F:List FarmF}(h:FOk l F)(h64:(allAw l F).length≤64):En.Good l.env l.unit (cappeds (allAw l F)):=by
 refine⟨h.law.env.1,h.law.env.2,h.law.unit.1,h.law.unit.2,by unfold cappeds;rw[List.length_map];exact h64,fun x hx=>?_⟩
 obtain⟨a,ha,rfl⟩:=List.mem_map.1 hx;obtain⟨f,hf,ha⟩:=mem_allAw.1 ha;have k:=farmAw_fine h.law (h.farm f hf) ha;have:=k.c0;have:=k.ct;have:=k.ok.tr;have:=k.ok.r1;exact⟨by omega,by omega⟩
theorem assErr_cases {l:YLaw}{F:List FarmF}(h:FOk l F):(assErr l F=67∧allErr l F=67)∨(allErr l F=0∧64<(allAw l F).length∧assErr l F=1)∨(allErr l F=0∧(allAw l F).length≤64∧assErr l F=0):=by
 unfold assErr;rw[if_neg (by rw[h.chk];decide)]
 rcases allErr_cases h F (fun _ h=>h) with e|e
 ·rw[if_neg (by omega)]
  by_cases h64:64<(allAw l F).length
  ·rw[if_pos h64];exact .inr (.inl ⟨e,h64,rfl⟩)
  ·rw[if_neg h64]
   exact .inr (.inr ⟨e,by omega,En.err_of (all_good h (by omega))⟩)
 ·rw[if_pos (by omega)];exact .inl ⟨e,e⟩
theorem due_list {A:List Awd}{c:List Int}(h:c.length=A.length):(setDue A c).map (·.due)=c:=by
 apply List.ext_getElem
 ·rw[List.length_map,setDue_len,h]
 ·intro i h1 h2
  rw[List.getElem_map,setDue_at A c i _ (by omega)]
  simp[h2]
theorem setDue_cap {A:List Awd}{c:List Int}:cappeds (setDue A c)=cappeds A:=by
 unfold cappeds
 apply List.ext_getElem
 ·rw[List.length_map,List.length_map,setDue_len]
 ·intro i h1 h2
  rw[List.length_map]at h1 h2;rw[List.getElem_map,List.getElem_map,setDue_at A c i h1 h2]
structure Falls (l:YLaw) (A:List Awd):Prop where
 each:∀a∈A,a.det≤a.decl∧a.paid≤a.det∧a.timely≤a.rated∧a.capped≤a.timely∧a.due≤a.capped∧0≤a.due∧0≤a.paid∧0≤a.capped∧a.capped≤68719476736
 asc:A.Pairwise awLt
 len:A.length≤64
 sum:total A≤l.env
 sum0:0≤total A
 near:En.usum l.unit (cappeds A)≤l.env / l.unit∨l.env - total A<l.unit
theorem falls {l:YLaw}{F:List FarmF}(h:FOk l F)(h0:assErr l F=0):Falls l (assess l F):=by
 rcases assErr_cases h with⟨e,_⟩|⟨_,_,e⟩|⟨e1,e2,_⟩
 ·omega
 ·omega
 have G:=all_good h e2;have K:=G.keeps;have eA:assess l F=setDue (allAw l F) (En.scale l.env l.unit (cappeds (allAw l F))):=by unfold assess;rw[if_neg (by omega)]
 have cl:(cappeds (allAw l F)).length=(allAw l F).length:=by unfold cappeds;simp
 have hlen:(En.scale l.env l.unit (cappeds (allAw l F))).length=(allAw l F).length:=by rw[K.len,cl]
 have tot:total (assess l F)=Sh.sum (En.scale l.env l.unit (cappeds (allAw l F))):=by unfold total;rw[eA,due_list hlen]
 have each:∀a∈assess l F,a.det≤a.decl∧a.paid≤a.det∧a.timely≤a.rated∧a.capped≤a.timely∧a.due≤a.capped∧0≤a.due∧0≤a.paid∧0≤a.capped∧a.capped≤68719476736:=by
  rw[eA];intro a ha;obtain⟨i,hi,rfl⟩:=List.mem_iff_getElem.1 ha;have hi' : i<(allAw l F).length:=by rw[setDue_len]at hi;exact hi
  rw[setDue_at _ _ i hi hi'];obtain⟨f,hf,hm⟩:=mem_allAw.1 (List.getElem_mem hi');have k:=farmAw_fine h.law (h.farm f hf) hm;have b:=K.at_ i (by rw[cl];exact hi');rw[cap_getD _ i hi']at b;have:=k.ok.tr;have:=k.ok.r1;have:=k.ct;exact⟨k.ok.nd,k.ok.pn,k.ok.tr,k.ct,b.2.1,b.1,k.ok.p0,k.c0,by show(allAw l F)[i].capped≤_;omega⟩
 refine⟨each,?_,by rw[eA,setDue_len];exact e2,by rw[tot];exact K.sum,?_,?_⟩
 ·rw[eA,List.pairwise_iff_getElem]
  intro i j hi hj hij;have hi' : i<(allAw l F).length:=by rw[setDue_len]at hi;exact hi
  have hj' : j<(allAw l F).length:=by rw[setDue_len]at hj;exact hj
  rw[setDue_at _ _ i hi hi', setDue_at _ _ j hj hj'];exact List.pairwise_iff_getElem.1 (allAw_asc h.law h.farm (asc_pairwise h.asc)) i j hi' hj' hij
 ·unfold total
  refine Sh.sum_nonneg fun x hx=>?_
  obtain⟨a,ha,rfl⟩:=List.mem_map.1 hx;exact(each a ha).2.2.2.2.2.1
 ·rw[tot,eA,setDue_cap]
  by_cases hq:l.env / l.unit<En.usum l.unit (cappeds (allAw l F))
  ·right
   apply K.near
   unfold En.scaled;rw[En.err_of G]
   simp[hq]
  ·left;omega
/-! ### the day of arrival -/
/-! ### the order of lines -/
/-! ### a farm more -/
theorem assess_at {l:YLaw}{F:List FarmF}(h0:assErr l F=0):(assess l F).length=(allAw l F).length∧cappeds (assess l F)=cappeds (allAw l F)∧∀i (h:i<(assess l F).length) (h' : i<(allAw l F).length),(assess l F)[i]={ (allAw l F)[i] with due:=(En.scale l.env l.unit (cappeds (allAw l F))).getD i 0 }:=by
 have e:assess l F=setDue (allAw l F) (En.scale l.env l.unit (cappeds (allAw l F))):=by unfold assess;rw[if_neg (by omega)]
 refine⟨by rw[e,setDue_len],by rw[e,setDue_cap],fun i h h' => ?_⟩
 have:∀X:List Awd,X=setDue (allAw l F) (En.scale l.env l.unit (cappeds (allAw l F)))→∀(hX:i<X.length),X[i]={ (allAw l F)[i] with due:=(En.scale l.env l.unit (cappeds (allAw l F))).getD i 0 }:=by
  rintro X rfl hX;exact setDue_at _ _ i hX h'
 exact this _ e h
theorem rsLine_line {l:YLaw}{f:FarmF}{k n:Nat}{y:Rsn}(h:y∈rsLine l f n k):y.line=n:=by
 unfold rsLine at h
 split at h
 ·obtain⟨_,_,_,_,_,_,rfl⟩:=mem_rsnAt.1 h;rfl
 ·cases h
theorem rsnAt_len (l:YLaw)(x:LineF)(i k:Nat):(rsnAt l x i k).length≤k:=by
 induction k with
 | zero=>simp[rsnAt]
 | succ k ih =>
   unfold rsnAt rsStep;rw[lap]
   split
   ·split
    ·simp;omega
    ·simp;omega
   ·simp;omega
/-! ### sums, a line at a time -/
theorem sumD_take {s:Sch}{K:List LineF}{k:Nat}(hk:k<K.length):sumD s (K.take (k+1))=sumD s (K.take k)+if namesB K[k] s then K[k].decl else 0:=by
 unfold sumD;rw[tsg hk,List.map_append,List.map_singleton,Sh.sum_snoc]
theorem sumN_take {l:YLaw}{j:Nat}{s:Sch}{K:List LineF}{k:Nat}(hk:k<K.length):sumN l j s (K.take (k+1))=sumN l j s (K.take k)+if namesB K[k] s then (det (factOf K[k] j) l.width).1 else 0:=by
 unfold sumN;rw[tsg hk,List.map_append,List.map_singleton,Sh.sum_snoc]
theorem someN_take {s:Sch}{K:List LineF}{k:Nat}(hk:k<K.length):someN s (K.take (k+1))=(someN s (K.take k)||namesB K[k] s):=by
 unfold someN;rw[tsg hk,List.any_append]
 simp
theorem declSum_mono {K:List LineF}(h:∀x∈K,0≤x.decl)(k:Nat):declSum (K.take k)≤declSum K:=by
 have e:declSum K=declSum (K.take k)+declSum (K.drop k):=by
  unfold declSum;rw[← Sh.sum_append,← List.map_append,List.take_append_drop]
 have:0≤declSum (K.drop k):=Sh.sum_nonneg fun y hy=>by
  obtain⟨x,hx,rfl⟩:=List.mem_map.1 hy;exact h x (List.mem_of_mem_drop hx)
 omega
end Go.Proofs.YtljibgchickcpaaGreatDoor.As
namespace Go.Proofs.YtljibgchickcpaaGreatDoor
open Go.RowKit Te
theorem refdown100_any (n:Int)(h0:0≤n)(h1:n≤1125899906842624)(w:World):Calls Tryz.prog 129 #[I O n,I O 100] w fun e w' => e = .returned (I O (n / 100))∧w=w' :=by
 have FT:∀W,Calls Tryz.prog 148 #[I O n,I O 100] W fun e w' => e = .returned (.bool true)∧W=w' := fun W=>by
  have g2:(-1125899906842624:Int)≤n:=by omega
  go_enter Tryz.func148,Tryz.ntmps148
  go_wp2
  go_ret
  exact⟨rfl,rfl⟩
 have FT:=mh FT;have hr2:¬n<n / 100*100:=by omega
 go_enter Tryz.func129,Tryz.ntmps129
 go_wp2_with (first|(go_at_call 148;(with_reducible refine cmo (FT.out _) ?_);rintro e w1 ⟨rfl,rfl⟩))
 go_ret
 exact⟨rfl,rfl⟩
theorem sneq {a b:ByteArray}(h:a.data.toList≠b.data.toList):(a.toList==b.toList)=false:=by
 rw[ByteArray.toList_eq,ByteArray.toList_eq]
 simpa using h
theorem grow_below (w:World)(k:Nat)(os:Array Obj):Below w.heap.size w (Go.Sort.grow (w.drewN k) os) :=
 ⟨rfl,rfl,rfl,by show w.heap.size≤(w.heap++os).size;rw[Array.size_append];omega,fun i hi=>by
  show(w.heap++os)[i]?=_
  rw[Array.getElem?_append,if_pos hi]⟩
theorem bytesWorld_below (w:World)(T:TypeId)(t:ByteArray):Below w.heap.size w (Lib.bytesWorld w T t) :=
 ⟨rfl,rfl,rfl,by rw[Lib.bytesWorld_size];omega,fun j hj=>Lib.bytesWorld_at_old w T t j hj⟩
def DecGive (n:Int) (w:World) (e:Ending) (w' : World):Prop:=e = .returned (.string ⟨(Lib.itoa n).toArray⟩)∧Below w.heap.size w w'
theorem itoa_any (n:Int)(w:World)(hE:Env w)(h0 : -9223372036854775808≤n)(h1:n≤9223372036854775807):Calls Tryz.prog 67 #[I O n] w (DecGive n w) :=
 (Tryz.strconv_Itoa n h0 h1 w hE.pow).mono fun _ _ ⟨he,k,os,hw⟩=>⟨he,hw▸grow_below w k os⟩
theorem decimal_any (n:Int)(w:World)(hE:Env w)(h0 : -9223372036854775808≤n)(h1:n≤9223372036854775807):Calls Tryz.prog 63 #[I O n] w (DecGive n w):=by
 have HI:=mh (itoa_any n w hE h0 h1);clear hE
 go_enter Tryz.func63,Tryz.ntmps63
 go_wp2_with (first|(go_at_call 67;refine cmo HI.out ?_;rintro e w1 ⟨rfl,hb⟩))
 go_ret
 exact⟨rfl,hb⟩
theorem ret_vb {a b:Int}{c d:Bool}(h:a=b)(k:c=d):Ending.returned (.tuple #[I O a,.bool c]) = .returned (.tuple #[I O b,.bool d]):=by rw[h,k]
def NumGive (l:List UInt8) (least most:Int) (w:World) (e:Ending) (w' : World):Prop:=e = .returned (.tuple #[I O (Wo.numV l least most),.bool (Wo.numB l least most)])∧Below w.heap.size w w'
theorem num_none {l:List UInt8}(h:Wo.numO l=none)(a b:Int):Wo.numV l a b=0∧Wo.numB l a b=false:=by unfold Wo.numV Wo.numB;rw[h];exact⟨rfl,rfl⟩
theorem num_out {l:List UInt8}{v:Int}(h:Wo.numO l=some v){a b:Int}(ho:v<a∨b<v):Wo.numV l a b=0∧Wo.numB l a b=false:=by unfold Wo.numV Wo.numB;rw[h];simp only[if_pos ho];exact⟨trivial,trivial⟩
theorem num_in {l:List UInt8}{v:Int}(h:Wo.numO l=some v){a b:Int}(ho:¬(v<a∨b<v)):Wo.numV l a b=v∧Wo.numB l a b=true:=by unfold Wo.numV Wo.numB;rw[h];simp only[if_neg ho];exact⟨trivial,trivial⟩
theorem number_any (s:ByteArray)(least most:Int)(w:World)(hE:Env w)(hs:s.size≤281474976710656) :
  Calls Tryz.prog 118 #[.string s,I O least,I O most] w (NumGive s.data.toList least most w):=by
 obtain⟨t1,p1,h1⟩:=hE.syn;obtain⟨t2,p2,h2⟩:=hE.rng;have HE:=mh hE
 cases ha:Lib.atoiAll s.data.toList with
 | range =>
   obtain⟨e1,e2⟩:=num_none (show Wo.numO s.data.toList=none by unfold Wo.numO;rw[ha]) least most;have HN:=mh (And.intro e1 e2);have HA:=mh (Tryz.strconv_Atoi_range_var s hs ha t2 p2 w h2);clear ha h1 h2 hE e1 e2;generalize Lib.atoiSat s.data.toList=sat at *
   go_enter Tryz.func118,Tryz.ntmps118
   go_wp2_with (first|(go_at_call 142;refine cmo HA.out ?_;rintro e w1 ⟨N,rfl, -, -,hb⟩))
   go_ret2
   exact⟨ret_vb HN.out.1.symm HN.out.2.symm,hb⟩
 | ok v =>
   obtain⟨v0,v1⟩:=Lib.atoiAll_bounds ha;have HA:=mh (Tryz.strconv_Atoi_ok s (by omega) v ha w);have HI:=mh (fun (W:World) (h:Env W)=>itoa_any v W h v0 v1)
   by_cases hs' : Lib.itoa v=s.data.toList
   ·have hn:Wo.numO s.data.toList=some v:=by unfold Wo.numO;rw[ha];simp only[if_pos hs']
    have es:(⟨(Lib.itoa v).toArray⟩:ByteArray)=s:=by rw[hs']
    have ES:=mh es
    by_cases ho:v<least∨most<v
    ·obtain⟨e1,e2⟩:=num_out hn ho
     have HN:=mh (And.intro e1 e2);clear ha h1 h2 hE e1 e2 hn es hs'
     rcases ho with ho|ho
     all_goals
      go_enter Tryz.func118,Tryz.ntmps118
      go_wp2_with (first|(go_at_call 142;refine cmo HA.out ?_;rintro e w1 ⟨rfl,hw1⟩;have hb:Below w.heap.size w w1:=(by rcases hw1 with rfl|⟨t,rfl⟩;(· exact brf _ _);exact bytesWorld_below _ _ _);clear hw1)|(go_at_call 67;refine cmo (HI.out _ (HE.out.below hb)) ?_;rintro e w2 ⟨rfl,hb2⟩;rw[ES.out]))
      all_goals
       go_ret2
       exact⟨ret_vb HN.out.1.symm HN.out.2.symm,(hb.trans (hb2.mono hb.size))⟩
    ·obtain⟨e1,e2⟩:=num_in hn ho
     have HN:=mh (And.intro e1 e2);have ho1:¬v<least:=fun h=>ho (.inl h)
     have ho2:¬most<v:=fun h=>ho (.inr h)
     clear ha h1 h2 hE e1 e2 hn es hs' ho
     go_enter Tryz.func118,Tryz.ntmps118
     go_wp2_with (first|(go_at_call 142;refine cmo HA.out ?_;rintro e w1 ⟨rfl,hw1⟩;have hb:Below w.heap.size w w1:=(by rcases hw1 with rfl|⟨t,rfl⟩;(· exact brf _ _);exact bytesWorld_below _ _ _);clear hw1)|(go_at_call 67;refine cmo (HI.out _ (HE.out.below hb)) ?_;rintro e w2 ⟨rfl,hb2⟩;rw[ES.out]))
     go_ret2
     exact⟨ret_vb HN.out.1.symm HN.out.2.symm,(hb.trans (hb2.mono hb.size))⟩
   ·have hn:Wo.numO s.data.toList=none:=by unfold Wo.numO;rw[ha];simp only[if_neg hs']
    obtain⟨e1,e2⟩:=num_none hn least most;have HN:=mh (And.intro e1 e2);have es:((⟨(Lib.itoa v).toArray⟩:ByteArray).toList==s.toList)=false:=sneq (by exact hs');clear ha h1 h2 hE e1 e2 hn hs'; obtain⟨sv,esv⟩:∃x:ByteArray,(⟨(Lib.itoa v).toArray⟩:ByteArray)=x:=⟨_,rfl⟩;rw[esv]at es;have ES:=mh esv;clear esv
    go_enter Tryz.func118,Tryz.ntmps118
    go_wp2_with (first|(go_at_call 142;refine cmo HA.out ?_;rintro e w1 ⟨rfl,hw1⟩;have hb:Below w.heap.size w w1:=(by rcases hw1 with rfl|⟨t,rfl⟩;(· exact brf _ _);exact bytesWorld_below _ _ _);clear hw1)|(go_at_call 67;refine cmo (HI.out _ (HE.out.below hb)) ?_;rintro e w2 ⟨rfl,hb2⟩;rw[ES.out]))
    go_ret2
    exact⟨ret_vb HN.out.1.symm HN.out.2.symm,(hb.trans (hb2.mono hb.size))⟩
 | _ =>
   obtain⟨e1,e2⟩:=num_none (show Wo.numO s.data.toList=none by unfold Wo.numO;rw[ha]) least most;have HN:=mh (And.intro e1 e2);have HA:=mh (Tryz.strconv_Atoi_bad_var s hs (fun v e=>by rw[ha]at e;cases e) (fun e=>by rw[ha]at e;cases e) t1 p1 w h1);clear ha h1 h2 hE e1 e2
   go_enter Tryz.func118,Tryz.ntmps118
   go_wp2_with (first|(go_at_call 142;refine cmo HA.out ?_;rintro e w1 ⟨N,rfl, -, -,hb⟩))
   go_ret2
   exact⟨ret_vb HN.out.1.symm HN.out.2.symm,hb⟩
theorem name_len {l:List UInt8}(h:l.length<1∨12<l.length):Wo.nameB l=false:=by
 unfold Wo.nameB;have:(decide (1≤l.length)&&decide (l.length≤12))=false:=by
  rw[Bool.and_eq_false_iff,decide_eq_false_iff_not,decide_eq_false_iff_not];omega
 rw[this,Bool.and_false]
theorem refname_any (s:ByteArray)(w:World)(hs:s.size≤9223372036854775807) :
  Calls Tryz.prog 143 #[.string s] w (NameGive s.data.toList w):=by
 have hlen:s.data.toList.length=s.size:=by rw[Array.length_toList];rfl
 by_cases h1:s.size<1
 ·have HN:=mh (name_len (l:=s.data.toList) (.inl (by omega)))
  have h1' : (s.size:Int)<1:=by omega
  clear h1 hlen
  go_enter Tryz.func143,Tryz.ntmps143
  go_wp2
  go_ret
  exact⟨ret_b HN.out.symm,rfl⟩
 have g1:¬(s.size:Int)<1:=by omega
 by_cases h2:12<s.size
 ·have HN:=mh (name_len (l:=s.data.toList) (.inr (by omega)))
  have h2' : (12:Int)<(s.size:Int):=by omega
  clear h1 h2 hlen
  go_enter Tryz.func143,Tryz.ntmps143
  go_wp2
  go_ret
  exact⟨ret_b HN.out.symm,rfl⟩
 have g2:¬(12:Int)<(s.size:Int):=by omega
 have h0:0<s.size:=by omega
 have H1:=mh (show Wo.headB (s.data.toList.take 1)=Wo.letB s[0] by
  rw[Wo.take_snoc_bytes s 0 h0,Wo.headB_snoc];simp[Wo.headB])
 have HN:=mh (show Wo.headB s.data.toList=true→Wo.nameB s.data.toList=true by
  intro h;unfold Wo.nameB
  rw[h,Bool.true_and,Bool.and_eq_true,decide_eq_true_eq,decide_eq_true_eq,hlen];omega)
 have hlen' := mh hlen;clear h1 h2 hlen
 cases hl:Wo.letB s[0]
 ·have HF:=mh (headB_false (l:=s.data.toList) (k:=1) (by rw[H1.out,hl]))
  rcases byte_kinds s[0] with⟨c1,l1,d1⟩|⟨c1,c2,l1,d1⟩|⟨c1,c2,l1,d1⟩|⟨c1,c2,l1,d1⟩|⟨c1,l1,d1⟩
  all_goals first|(rw[hl]at l1;cases l1;done)|skip
  all_goals
   clear l1 d1 hl
   go_enter Tryz.func143,Tryz.ntmps143
   go_wp2
   go_ret
   exact⟨ret_b HF.out.symm,rfl⟩
 ·have HL:=mh hl
  have hh:97≤((s[0]).toNat:Int)∧((s[0]).toNat:Int)≤122:=by
   simp only[Wo.letB,Bool.and_eq_true,decide_eq_true_eq]at hl;exact hl
  obtain⟨c1,c2⟩:=hh;clear hl
  go_enter Tryz.func143,Tryz.ntmps143
  go_wp2
  clear c1 c2
  go_loop [3] (fun i=>∃k:Nat,k≤s.size∧i=I O k∧Wo.headB (s.data.toList.take k)=true) (fun i=>s.size - (intOf i).toNat)
  case atStart=>exact⟨0,Nat.zero_le _,rfl,rfl⟩
  case round =>
   obtain⟨k,hk,rfl,hh⟩:=hrel;have HH:=mh hh;clear hh;have hk0:(0:Int)≤(k:Int):=inn _
   by_cases hlt:k<s.size
   ·have HS:=mh (show Wo.headB (s.data.toList.take (k+1))=(Wo.letB s[k]||Wo.digB s[k]) by
     rcases Nat.eq_zero_or_pos k with h0|hpos
     ·subst h0
      rw[H1.out,HL.out];rfl
     ·rw[Wo.take_snoc_bytes s k hlt,Wo.headB_snoc,HH.out,Bool.true_and]
      have:(s.data.toList.take k).isEmpty=false:=by
       rw[List.isEmpty_eq_false_iff,ne_eq,List.take_eq_nil_iff,not_or];exact⟨by omega,fun e=>by have h9:s.data.toList.length=0:=(by rw[e];rfl);rw[hlen'.out]at h9;omega⟩
      rw[this];rfl)
    rcases byte_kinds s[k] with⟨c1,l1,d1⟩|⟨c1,c2,l1,d1⟩|⟨c1,c2,l1,d1⟩|⟨c1,c2,l1,d1⟩|⟨c1,l1,d1⟩
    all_goals
     rw[l1,d1]at HS;clear l1 d1
     go_wp2
     first
      | (go_round
         case rel=>exact⟨k+1,by omega,by go_num,HS.out⟩
         case measure=>simp[intOf];omega)
      | (go_ret
         exact⟨ret_b (headB_false HS.out).symm,rfl⟩)
   ·obtain rfl:k=s.size:=by omega
    have HE:=mh (HN.out (by have h:=HH.out;rwa [List.take_of_length_le (by rw[Array.length_toList];exact Nat.le_refl _)]at h))
    go_wp2
    go_ret
    exact⟨ret_b HE.out.symm,rfl⟩
def RcOk (lim:Nat) (c:Nat) (n:Int):Prop:=(c≤lim→n=(c:Int))∧(lim<c→(lim:Int)<n)∧1≤n∧n≤(c:Int)
def RcG (lim:Nat) (c:Nat) (w:World) (e:Ending) (w' : World):Prop:=∃n:Int,RcOk lim c n∧e = .returned (I O n)∧Below w.heap.size w w'
theorem RcOk.step {lim c k:Nat}{n m:Int}(h:RcOk lim c n)(hn:n≤lim)(h2:RcOk lim k m):RcOk lim (c+k) (n+m):=by
 obtain⟨a1,a2,a3,a4⟩:=h;obtain⟨b1,b2,b3,b4⟩:=h2;have hc:c≤lim:=by
  rcases Nat.lt_or_ge lim c with h|h
  ·have:=a2 h;omega
  ·exact h
 have:=a1 hc;refine⟨fun h=>?_,fun h=>?_,by omega,by omega⟩
 ·have:=b1 (by omega);omega
 ·rcases Nat.lt_or_ge lim k with h3|h3
  ·have:=b2 h3;omega
  ·have:=b1 h3;omega
theorem RcOk.keep {lim c k:Nat}{n:Int}(h:RcOk lim c n)(hn:lim<n):RcOk lim (c+k) n:=by
 obtain⟨a1,a2,a3,a4⟩:=h;exact⟨fun h=>by omega,fun _=>hn,a3,by omega⟩
theorem count_cons (to_ tn tm:Int)(K:List Tm):count (.mk to_ tn tm K)=1+countL K:=by rw[count]
theorem depth_cons (to_ tn tm:Int)(K:List Tm):depth (.mk to_ tn tm K)=depthL K+1:=by rw[depth]
theorem countL_bd (K:List Tm)(j:Nat)(h:j<K.length):count K[j]≤countL K:=countL_mem (List.getElem_mem h)
theorem depthL_append (A B:List Tm):depthL (A++B)=max (depthL A) (depthL B):=by
 induction A with
 | nil=>simp[depthL]
 | cons a r ih=>rw[List.cons_append,depthL,depthL,ih];omega
theorem depthL_succ (K:List Tm)(j:Nat)(h:j<K.length):depthL (K.take (j+1))=max (depthL (K.take j)) (depth K[j]):=by
 rw[tsg h,depthL_append,depthL,depthL];omega
mutual
theorem depth_le_count:∀t:Tm,depth t≤count t
 | .mk o n m K=>by rw[depth,count];have:=depthL_le_count K;omega
theorem depthL_le_count:∀K:List Tm,depthL K≤countL K
 | []=>by simp[depthL]
 | k::r=>by rw[depthL,countL];have:=depth_le_count k;have:=depthL_le_count r;omega
end
theorem count16r_any {Q:Nat→Prop}:∀(d:Nat) (r:RT) (t:Tm) (w:World),TV Q w d r t→count t≤1099511627776 →
  Calls Tryz.prog 159 #[.agg #[I O r.op,I O r.num,I O r.more,.slice r.p r.n r.c]] w (RcG 40 (count t) w):=by
 intro d
 induction d using Nat.strongRecOn with
 | _ d ih =>
 intro r t w h hz;obtain⟨ro,rn,rm,rp,rl,rc⟩:=r;obtain⟨to_,tn,tm,K⟩:=t;have hat:TmsAt Q w d rp K:=h.at_;have hlen:rl=K.length:=h.is.n;have hn:=hat.len;rw[count_cons]at hz ⊢;simp only;subst hlen;have HT:=mh hat;have IH:=mh ih;clear h ih hat
 go_enter Tryz.func159,Tryz.ntmps159
 go_wp2
 go_loopw [3,9] (fun n i wr=>∃(j:Nat) (N:Int),j≤K.length∧i=I O j∧n=I O N∧RcOk 40 (1+countL (K.take j)) N∧Below w.heap.size w wr) (fun _ i _=>K.length - (intOf i).toNat)
 case atStart=>exact⟨0,1,Nat.zero_le _,rfl,rfl,⟨fun _=>by simp[countL],fun h=>by simp[countL]at h,by omega,by simp[countL]⟩,(brf _ _).alloc mle _⟩
 case round =>
  obtain⟨wo,rfl⟩:∃wo:World,wo=wr:=⟨_,rfl⟩;obtain⟨j,N,hj,rfl,rfl,hR,hb⟩:=hrel;have HB:=mh hb;have HR:=mh hR;have hj0:(0:Int)≤(j:Int):=inn _;have hct:=countL_take K j;have n1:1≤N:=hR.2.2.1;have n2:N≤1099511627776:=by have:=hR.2.2.2;omega
  clear hR
  by_cases hlt:j<K.length
  ·have hj1:(j:Int)<(K.length:Int):=by omega
   obtain⟨e,b,off,k,rfl,rfl,hbl,hc,hv⟩:=(HT.out.below hb).kid hlt;obtain⟨c0,c1,c2,c3⟩:=hc;have hkb:=countL_bd K j hlt;have CS:=mh (countL_succ K j hlt);have HK:=mh (fun (W:World) (hW:Below wo.heap.size wo W)=>IH.out e (by omega) k K[j] W (hv.below hW) (by omega));clear hv hb
   by_cases hm:N≤40
   ·have HK2:=mh (HK.out _ ((brf _ _).alloc mle (.cells #[I O k.op,I O k.num,I O k.more,.slice k.p k.n k.c] 109)))
    clear HK
    go_wp2_with (first|(go_at_call 159;(with_reducible refine cmo HK2.out ?_);rintro e w1 ⟨M,hM,rfl,hb1⟩;have m1:1≤M:=hM.2.2.1;have m2:M≤1099511627776:=(by have:=hM.2.2.2;omega);have HM:=mh hM;clear hM))
    go_roundw
    case rel=>exact⟨j+1,N+M,by omega,by go_num,rfl,by rw[CS.out,← Nat.add_assoc];exact HR.out.step (by omega) HM.out,bstep mle (balloc mle HB.out _) hb1⟩
    case measure=>simp[intOf];omega
   ·clear HK
    go_wp2
    go_roundw
    case rel=>exact⟨j+1,N,by omega,by go_num,rfl,by rw[CS.out,← Nat.add_assoc];exact HR.out.keep (by omega),balloc mle HB.out _⟩
    case measure=>simp[intOf];omega
  ·obtain rfl:j=K.length:=by omega
   rw[List.take_length]at HR;clear hb hct
   go_wp2
   go_ret
   exact⟨N,HR.out,rfl,HB.out⟩
theorem depth16_any {Q:Nat→Prop}:∀(d:Nat) (r:RT) (t:Tm) (w:World),TV Q w d r t→count t≤1099511627776 →
  Calls Tryz.prog 160 #[.agg #[I O r.op,I O r.num,I O r.more,.slice r.p r.n r.c]] w (IntG (depth t:Int) w):=by
 intro d
 induction d using Nat.strongRecOn with
 | _ d ih =>
 intro r t w h hz;obtain⟨ro,rn,rm,rp,rl,rc⟩:=r;obtain⟨to_,tn,tm,K⟩:=t;have hat:TmsAt Q w d rp K:=h.at_;have hlen:rl=K.length:=h.is.n;have hn:=hat.len;rw[count_cons]at hz;rw[depth_cons];have hdc:=depthL_le_count K;simp only;subst hlen;have HT:=mh hat;have IH:=mh ih;clear h ih hat
 go_enter Tryz.func160,Tryz.ntmps160
 go_wp2
 go_loopw [3,9] (fun n i wr=>∃j:Nat,j≤K.length∧i=I O j∧n=I O (depthL (K.take j):Int)∧Below w.heap.size w wr) (fun _ i _=>K.length - (intOf i).toNat)
 case atStart=>exact⟨0,Nat.zero_le _,rfl,rfl,(brf _ _).alloc mle _⟩
 case round =>
  obtain⟨wo,rfl⟩:∃wo:World,wo=wr:=⟨_,rfl⟩;obtain⟨j,hj,rfl,rfl,hb⟩:=hrel;have HB:=mh hb;have hj0:(0:Int)≤(j:Int):=inn _
  by_cases hlt:j<K.length
  ·have hj1:(j:Int)<(K.length:Int):=by omega
   obtain⟨e,b,off,k,rfl,rfl,hbl,hc,hv⟩:=(HT.out.below hb).kid hlt;obtain⟨c0,c1,c2,c3⟩:=hc;have hkb:=countL_bd K j hlt;have CS:=mh (depthL_succ K j hlt);have HK:=mh (IH.out e (by omega) k K[j] _ (hv.below ((brf _ _).alloc mle (.cells #[I O k.op,I O k.num,I O k.more,.slice k.p k.n k.c] 109))) (by omega));clear hv hb;obtain⟨D,eD⟩:∃D,depth K[j]=D:=⟨_,rfl⟩;rw[eD]at CS HK;obtain⟨E,eE⟩:∃E,depthL (K.take j)=E:=⟨_,rfl⟩;rw[eE]at CS ⊢;clear eD eE
   by_cases hm:D≤E
   ·have HM:=mh (show depthL (K.take (j+1))=E by rw[CS.out];omega)
    have hm1:¬(E:Int)<(D:Int):=by omega
    go_wp2_with (first|(go_at_call 160;(with_reducible refine cmo HK.out ?_);rintro e w1 ⟨rfl,hb1⟩))
    go_roundw
    case rel=>exact⟨j+1,by omega,by go_num,by rw[HM.out];first|rfl|(congr 1;omega),bstep mle (balloc mle HB.out _) hb1⟩
    case measure=>simp[intOf];omega
   ·have HM:=mh (show depthL (K.take (j+1))=D by rw[CS.out];omega)
    have hm1:(E:Int)<(D:Int):=by omega
    go_wp2_with (first|(go_at_call 160;(with_reducible refine cmo HK.out ?_);rintro e w1 ⟨rfl,hb1⟩))
    go_roundw
    case rel=>exact⟨j+1,by omega,by go_num,by rw[HM.out];first|rfl|(congr 1;omega),bstep mle (balloc mle HB.out _) hb1⟩
    case measure=>simp[intOf];omega
  ·obtain rfl:j=K.length:=by omega
   rw[List.take_length];clear hb
   go_wp2
   go_ret
   exact⟨ret_int (by omega),HB.out⟩
end Go.Proofs.YtljibgchickcpaaGreatDoor
