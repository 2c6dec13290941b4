/- Packed. -/
import Derived.Test.YtefcalgjnkigjaaGreatK17
open Go.Value renaming int → I
open Go.IntKind renaming i64 → O
namespace Go.Proofs.YtefcalgjnkigjaaGreat
open Go.RowKit Sc As
theorem As.timelies_snoc (A:List Awd)(a:Awd):timelies (A ++ [a])=timelies A ++ [a.timely]:=by unfold timelies;rw[List.map_append];rfl
def As.capN (A:List Awd) (c:List Int) (j:Nat):List Awd:=A.mapIdx fun i a=>if i<j then { a with capped:=c.getD i 0 } else a
theorem As.capN_len (A:List Awd)(c:List Int)(j:Nat):(capN A c j).length=A.length:=by unfold capN;simp
theorem As.capN_at (A:List Awd)(c:List Int)(j i:Nat)(h:i<(capN A c j).length)(h' : i<A.length):(capN A c j)[i]=if i<j then { A[i] with capped:=c.getD i 0 } else A[i]:=by simp[capN]
theorem As.capN_zero (A:List Awd)(c:List Int):capN A c 0=A:=by
 apply List.ext_getElem (capN_len _ _ _)
 intro i h h'; rw[capN_at _ _ _ _ h h', if_neg (by omega)]
theorem As.capN_all (A:List Awd)(c:List Int):capN A c A.length=setCapped A c:=by
 apply List.ext_getElem (by rw[capN_len,setCapped_len])
 intro i h h'; rw[capN_len]at h;rw[capN_at _ _ _ _ _ h,if_pos h,setCapped_at _ _ _ _ h]
theorem As.capN_succ (A:List Awd)(c:List Int)(j:Nat)(h:j<(capN A c j).length):capN A c (j+1)=(capN A c j).set j { (capN A c j)[j] with capped:=c.getD j 0 }:=by
 apply List.ext_getElem (by rw[List.length_set,capN_len,capN_len])
 intro i h1 h2;rw[capN_len]at h1;rw[capN_at _ _ _ _ _ h1,List.getElem_set]
 by_cases e:j=i
 ·subst e
  rw[if_pos rfl,if_pos (by omega),capN_at _ _ _ _ _ h1,if_neg (by omega)]
 ·rw[if_neg e,capN_at _ _ _ _ _ h1]
  by_cases h3:i<j
  ·rw[if_pos h3,if_pos (by omega)]
  ·rw[if_neg h3,if_neg (by omega)]
theorem FV.any {Q:Nat→Prop}{w:World}{r:RF}{f:FarmF}(h:FV Q w r f):FV (fun _=>True) w r f:=h.change mle fun _ _ _=>⟨rfl,trivial⟩
theorem FsAt.one {W:World}{r:RF}{f:FarmF}(fv:FV (fun _=>True) W r f)(T:TypeId):FsAt (fun _=>True) (W.alloc (.cells (fCells r).toArray T)) (some ⟨W.heap.size,0,none⟩) [f]:=by
 have hA:Below W.heap.size W (W.alloc (.cells (fCells r).toArray T)):=(brf _ _).alloc mle _;refine⟨⟨[r],rfl,Recs.lit (S:=SF) W T [r] (by show 1≤_;unfold maxLen;omega),fun k a b=>?_⟩,fun a e => .inr trivial⟩
 match k,a with
 | 0,_=>exact fv.below hA
theorem YV.lt {Q:Nat→Prop}{w:World}{d:Nat}{r:RY}{l:YLaw}(h:YV Q w d r l):YV (fun b=>b<w.heap.size) w d r l:=h.change mle fun _ _ hl=>⟨rfl,hl⟩
theorem FV.lt {Q:Nat→Prop}{w:World}{r:RF}{f:FarmF}(h:FV Q w r f):FV (fun b=>b<w.heap.size) w r f:=h.change mle fun _ _ hl=>⟨rfl,hl⟩
def As.FrG (l:YLaw) (f:FarmF) (w:World) (e:Ending) (w' : World):Prop :=
 ∃va vr,e = .returned (.tuple #[va,vr,I O (farmErr l f)])∧OwnR SA w' 91 w.heap.size va (farmAw l f)∧OwnR SRn w' 129 w.heap.size vr (farmRs l f)∧Below w.heap.size w w'
theorem As.FrG.err {l:YLaw}{f:FarmF}{w w' : World}{er:Int}(h:farmErr l f=er)(hne:er≠0)(hb:Below w.heap.size w w'):FrG l f w (.returned (.tuple #[.slice none 0 0,.slice none 0 0,I O er])) w' :=
 ⟨.slice none 0 0,.slice none 0 0,by rw[h],by unfold farmAw;rw[if_pos (by rw[h];exact hne)];exact OwnR.nil _ _ _,by unfold farmRs;rw[if_pos (by rw[h];exact hne)];exact OwnR.nil _ _ _,hb⟩
theorem As.allAw_snoc (l:YLaw)(F:List FarmF)(f:FarmF):allAw l (F ++ [f])=allAw l F++farmAw l f:=by unfold allAw;rw[List.flatMap_append];simp
theorem As.allErr_snoc {l:YLaw}{F:List FarmF}(f:FarmF)(h:allErr l F=0):allErr l (F ++ [f])=farmErr l f:=by
 rw[allErr_append,if_neg (by rw[h];simp)];unfold allErr
 split
 ·rfl
 ·rename_i h;simp at h;rw[h];rfl
theorem As.allErr_bad {l:YLaw}{F:List FarmF}{k:Nat}(hk:k<F.length)(h:allErr l (F.take k)=0)(hne:farmErr l F[k]≠0):allErr l F=farmErr l F[k]:=by
 have e:F=F.take k++F[k]::F.drop (k+1):=by rw[← List.drop_eq_getElem_cons hk,List.take_append_drop]
 have h2:allErr l (F.take k++F[k]::F.drop (k+1))=farmErr l F[k]:=by
  rw[allErr_append,if_neg (by rw[h];simp)];unfold allErr;rw[if_pos hne]
 rw[← e]at h2;exact h2
def As.dueN (A:List Awd) (c:List Int) (j:Nat):List Awd:=A.mapIdx fun i a=>if i<j then { a with due:=c.getD i 0 } else a
theorem As.dueN_len (A:List Awd)(c:List Int)(j:Nat):(dueN A c j).length=A.length:=by unfold dueN;simp
theorem As.dueN_at (A:List Awd)(c:List Int)(j i:Nat)(h:i<(dueN A c j).length)(h' : i<A.length):(dueN A c j)[i]=if i<j then { A[i] with due:=c.getD i 0 } else A[i]:=by simp[dueN]
theorem As.dueN_zero (A:List Awd)(c:List Int):dueN A c 0=A:=by
 apply List.ext_getElem (dueN_len _ _ _)
 intro i h h'; rw[dueN_at _ _ _ _ h h', if_neg (by omega)]
theorem As.dueN_all (A:List Awd)(c:List Int):dueN A c A.length=setDue A c:=by
 apply List.ext_getElem (by rw[dueN_len,setDue_len])
 intro i h h'; rw[dueN_len]at h;rw[dueN_at _ _ _ _ _ h,if_pos h,setDue_at _ _ _ _ h]
theorem As.dueN_succ (A:List Awd)(c:List Int)(j:Nat)(h:j<(dueN A c j).length):dueN A c (j+1)=(dueN A c j).set j { (dueN A c j)[j] with due:=c.getD j 0 }:=by
 apply List.ext_getElem (by rw[List.length_set,dueN_len,dueN_len])
 intro i h1 h2;rw[dueN_len]at h1;rw[dueN_at _ _ _ _ _ h1,List.getElem_set]
 by_cases e:j=i
 ·subst e
  rw[if_pos rfl,if_pos (by omega),dueN_at _ _ _ _ _ h1,if_neg (by omega)]
 ·rw[if_neg e,dueN_at _ _ _ _ _ h1]
  by_cases h3:i<j
  ·rw[if_pos h3,if_pos (by omega)]
  ·rw[if_neg h3,if_neg (by omega)]
structure As.DuS (H B:Nat) (w0 wr:World) (va:Value) (A:List Awd) (pF:Option Addr) (C:List Int) (j:Nat):Prop where
 oa:OwnR SA wr 91 B va (dueN A C j)
 low:Below B w0 wr
 ints:Ints wr pF C
 nb:∀g,va.ownBlock=some g→g<H
 pf:∀a,pF=some a→H≤a.block
theorem As.DuS.set {H B:Nat}{w0 wr:World}{va:Value}{A:List Awd}{pF:Option Addr}{C:List Int}{j n:Nat}(h:DuS H B w0 wr va A pF C j)(hn:A.length=n)(hj:j<n) :
  ∃g c u,va = .slice (some ⟨g,0,none⟩) n c∧wr.cell? ⟨g,j*9+8,none⟩=some u∧wr.frozen? ⟨g,j*9+8,none⟩=false∧DuS H B w0 (wr.setCell ⟨g,j*9+8,none⟩ (I O (C.getD j 0))) va A pF C (j+1):=by
 have hl:(dueN A C j).length=n:=by rw[dueN_len,hn]
 obtain⟨p,c,e, -, -, -, -, -⟩:=h.oa.cut hl;have ho:=h.oa;rw[e]at ho;obtain⟨g,rfl, -,hB,hg,hcl,hf,hs⟩:=ho.at (show j<(dueN A C j).length by rw[hl];exact hj);have h9:SA.k=9:=rfl;rw[h9]at hcl hs;have hgo:va.ownBlock=some g:=by rw[e];rfl
 refine⟨g,c,_,e,hcl 8 _ rfl,hf _,⟨?_,h.low.setCell (show B≤g from hB) _,?_,h.nb,h.pf⟩⟩
 ·rw[e,dueN_succ _ _ _ (show j<(dueN A C j).length by rw[hl];exact hj)]
  exact hs 8 _ _ (by omega) rfl
 ·refine⟨h.ints.1,?_⟩
  rcases h.ints.2 with q|⟨b,off,q,hlt,hc⟩
  ·exact .inl q
  ·have:H≤b:=h.pf _ q
   have:=h.nb g hgo;exact .inr ⟨b,off,q,by simp[World.setCell];exact hlt,fun k hk=>(World.cell?_setCell_other _ _ _ _ (fun e=>by simp only[Addr.mk.injEq]at e;omega)).trans (hc k hk)⟩
def As.AsG (l:YLaw) (F:List FarmF) (w:World) (e:Ending) (w' : World):Prop :=
 ∃va,e = .returned (.tuple #[va,I O (assErr l F)])∧OwnR SA w' 91 w.heap.size va (assess l F)∧Below w.heap.size w w'
theorem As.AsG.err {l:YLaw}{F:List FarmF}{w w' : World}{er:Int}(h:assErr l F=er)(hne:er≠0)(hb:Below w.heap.size w w'):AsG l F w (.returned (.tuple #[.slice none 0 0,I O er])) w' :=
 ⟨.slice none 0 0,by rw[h],by unfold assess;rw[if_pos (by rw[h];exact hne)];exact OwnR.nil _ _ _,hb⟩
end Go.Proofs.YtefcalgjnkigjaaGreat
