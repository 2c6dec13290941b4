/- Packed. -/
import Derived.Test.YtljibgchickcpaaGreatDoorC9
set_option maxRecDepth 100000
set_option maxHeartbeats 4000000
open Go.Value renaming int → I
open Go.IntKind renaming i64 → O
namespace Go.Proofs.YtljibgchickcpaaGreatDoor
open Go.RowKit
theorem OwnR.stepAp {α:Type}{S:Shape α}{P:Program}{T TS:TypeId}{bytes:Nat}(he:Elem S P T TS bytes){w:World}{ops:Array Oper}{o:Oper}{a:Act}{K:Act→World→Prop}{Q:Exit→Act→World→Prop}{E:Prop}(hgd:o.guard=none)(s x:Operand)
  (ho:o.op = .call { callee := .builtin .append,args:=#[s,x],argTypes:=#[TS,TS] }) (B:Nat) (v:Value) (L M:List α) (p:Option Addr) (c n:Nat) (hM:M.length=n) (hown:OwnR S w T B v L) (hsrc:Recs S w p M) (hp:p=none→c=0) (hs:a.eval s=v)
  (hx:a.eval x = .slice p n c) (hB:B≤w.heap.size) (hn:L.length+n<1073741824) (hby:bytes≤65536)
  (h:∀v' w', OwnR S w' T B v' (L++M)→Appends w w' B w.heap.size v v' → K (a.put o.dst v') w'):if Region.wanted o (yielded ops a.tmps)=true then Oper.wp P o a w K Q else E:=by
 subst hM;have hw:Region.wanted o (yielded ops a.tmps)=true:=by simp[Region.wanted,hgd]
 rw[if_pos hw];obtain⟨i0,z,e1,e2,e3,e4,e5⟩:=he.ex;have hb2:(L.length+M.length)*bytes≤1073741824*65536:=Nat.mul_le_mul (by omega) hby
 cases p with
 | none =>
   obtain rfl:=hp rfl;have hM:M = []:=by
    rcases hsrc.2 with h|⟨b,off,h,_⟩
    ·exact h
    ·cases h
   subst hM;have hrun:=run_append_owned_none (P:=P) (w:=w) B TS o.type T i0 S.k he.ts e1 v L.length (S.flat L) hown;unfold Oper.wp
   simp[execOp,ho,resolve,invoke,builtin,hs,hx,hrun,Result.andThen]
   exact h _ _ (by rw[List.append_nil];exact hown) ⟨brf _ _,Nat.le_refl _,fun _ _ _=>rfl,.inl rfl⟩
 | some ad =>
   obtain⟨v', w', hr,h2,h3, -,h4⟩:=run_append_own_at (P:=P) w B TS o.type T i0 z S.k bytes he.ts e1 e2 e3 e4 e5 S.pos v L.length (S.flat L) hown ad M.length c (S.flat M) (S.flat_len M) (fun j u hu=>by
    rcases hsrc.2 with rfl|⟨b', off', hp', hl,hc⟩
    ·simp[Shape.flat]at hu
    ·cases hp'
     rw[Go.WideShapes.add_plain]
     exact hc j u hu) (S.flat_ones M) (by unfold maxLen;omega) (by omega) hB
   unfold Oper.wp execOp;simp only[ho,resolve,invoke,builtin,Sem.run_bind,Sem.run_pure,Result.andThen_ok,List.map_toArray,List.map_cons,List.map_nil,hs,hx,hr];refine h v' w' ?_ ⟨(brf B w).grown h3 hB fun k hk=>(World.ownsRow.lt hown k hk).1,h3.size,fun k hk hne=>h3.block k hk (fun e=>hne e.symm),h4⟩;unfold OwnR;rw[lap,S.flat_append];exact h2
open Sc As
def SI:Shape Int:=⟨1,fun n => [I O n],fun _=>rfl,by decide,fun a u hu=>by
 simp only[List.mem_cons,List.not_mem_nil,or_false]at hu
 rw[hu];rfl⟩
theorem info_int64:(Tryz.prog.info? 3).map (fun i=>(i.zero,i.size,i.bytes))=some (some (I O 0),1,8):=by kernel_rfl
theorem el_int:Elem SI Tryz.prog 3 22 8:=by
 obtain⟨i0,h1,h2,h3,h4⟩:=info_parts info_int64;exact⟨⟨i0,_,h1,h2,h3,h4,rfl⟩,Tryz.underlying22⟩
theorem SI.flat_map (L:List Int):SI.flat L=L.map (Value.int .i64):=by
 induction L with
 | nil=>rfl
 | cons x L ih =>
   show [Value.int .i64 x]++SI.flat L=_
   rw[ih];rfl
theorem Recs.ints {w:World}{p:Option Addr}{L:List Int}(h:Recs SI w p L):Ints w p L:=by
 refine⟨h.1,?_⟩
 rcases h.2 with e|⟨b,off,e,hl,hc⟩
 ·exact .inl e
 ·refine .inr ⟨b,off,e,hl,fun j hj=>hc j _ ?_⟩
  rw[SI.flat_map]
  simp[hj]
theorem Apart.symm {u v:Value}(h:Apart u v):Apart v u:=fun g hg e=>h g e hg
theorem Apart.nil (u:Value):Apart u (.slice none 0 0):=fun _ _ e=>by cases e
section
variable {w wr w' : World} {t:Nat} {r:RY} {f:RF} {va vr v u:Value} {A A' : List Awd} {R R' : List Rsn} {X X' : List Int}
theorem apart_app {w w' : World}{B H:Nat}{u u' x:Value}(h:Appends w w' B H u u')(hd:Apart u x)(hx:∀g,x.ownBlock=some g→g<w.heap.size)(hH:w.heap.size≤H):Apart u' x:=fun g hg e=>by
 rcases h.block with k|k
 ·exact hd g (k▸hg) e
 ·have:=hx g e
  rw[k]at hg
  cases hg
  omega
end
/-! ### awards, a scheme at a time -/
theorem As.awardsN_succ {l:YLaw}{f:FarmF}{k:Nat}(hk:k<l.sch.length):awardsN l f (k+1)=awardsN l f k++if someN l.sch[k] f.lines=true then [award l f k l.sch[k]] else []:=by
 show awardsN l f k++awStep l f k=_
 unfold awStep;rw[List.getElem?_eq_getElem hk]
theorem As.awardsN_le (l:YLaw)(f:FarmF)(k:Nat):(awardsN l f k).length≤k:=awardsN_len l f k
end Go.Proofs.YtljibgchickcpaaGreatDoor
namespace Go.Proofs.YtljibgchickcpaaGreatDoor
open Go.RowKit Sc As
theorem As.timelies_snoc (A:List Awd)(a:Awd):timelies (A ++ [a])=timelies A ++ [a.timely]:=by unfold timelies;rw[List.map_append];rfl
def As.capN (A:List Awd) (c:List Int) (j:Nat):List Awd:=A.mapIdx fun i a=>if i<j then { a with capped:=c.getD i 0 } else a
theorem As.capN_len (A:List Awd)(c:List Int)(j:Nat):(capN A c j).length=A.length:=by unfold capN;simp
theorem As.capN_at (A:List Awd)(c:List Int)(j i:Nat)(h:i<(capN A c j).length)(h' : i<A.length):(capN A c j)[i]=if i<j then { A[i] with capped:=c.getD i 0 } else A[i]:=by simp[capN]
theorem As.capN_zero (A:List Awd)(c:List Int):capN A c 0=A:=by
 apply List.ext_getElem (capN_len _ _ _)
 intro i h h'; rw[capN_at _ _ _ _ h h', if_neg (by omega)]
theorem As.capN_all (A:List Awd)(c:List Int):capN A c A.length=setCapped A c:=by
 apply List.ext_getElem (by rw[capN_len,setCapped_len])
 intro i h h'; rw[capN_len]at h;rw[capN_at _ _ _ _ _ h,if_pos h,setCapped_at _ _ _ _ h]
theorem As.capN_succ (A:List Awd)(c:List Int)(j:Nat)(h:j<(capN A c j).length):capN A c (j+1)=(capN A c j).set j { (capN A c j)[j] with capped:=c.getD j 0 }:=by
 apply List.ext_getElem (by rw[List.length_set,capN_len,capN_len])
 intro i h1 h2;rw[capN_len]at h1;rw[capN_at _ _ _ _ _ h1,List.getElem_set]
 by_cases e:j=i
 ·subst e
  rw[if_pos rfl,if_pos (by omega),capN_at _ _ _ _ _ h1,if_neg (by omega)]
 ·rw[if_neg e,capN_at _ _ _ _ _ h1]
  by_cases h3:i<j
  ·rw[if_pos h3,if_pos (by omega)]
  ·rw[if_neg h3,if_neg (by omega)]
theorem FV.any {Q:Nat→Prop}{w:World}{r:RF}{f:FarmF}(h:FV Q w r f):FV (fun _=>True) w r f:=h.change mle fun _ _ _=>⟨rfl,trivial⟩
theorem FsAt.one {W:World}{r:RF}{f:FarmF}(fv:FV (fun _=>True) W r f)(T:TypeId):FsAt (fun _=>True) (W.alloc (.cells (fCells r).toArray T)) (some ⟨W.heap.size,0,none⟩) [f]:=by
 have hA:Below W.heap.size W (W.alloc (.cells (fCells r).toArray T)):=(brf _ _).alloc mle _;refine⟨⟨[r],rfl,Recs.lit (S:=SF) W T [r] (by show 1≤_;unfold maxLen;omega),fun k a b=>?_⟩,fun a e => .inr trivial⟩
 match k,a with
 | 0,_=>exact fv.below hA
def As.FrG (l:YLaw) (f:FarmF) (w:World) (e:Ending) (w' : World):Prop :=
 ∃va vr,e = .returned (.tuple #[va,vr,I O (farmErr l f)])∧OwnR SA w' 78 w.heap.size va (farmAw l f)∧OwnR SRn w' 76 w.heap.size vr (farmRs l f)∧Below w.heap.size w w'
theorem As.FrG.err {l:YLaw}{f:FarmF}{w w' : World}{er:Int}(h:farmErr l f=er)(hne:er≠0)(hb:Below w.heap.size w w'):FrG l f w (.returned (.tuple #[.slice none 0 0,.slice none 0 0,I O er])) w' :=
 ⟨.slice none 0 0,.slice none 0 0,by rw[h],by unfold farmAw;rw[if_pos (by rw[h];exact hne)];exact OwnR.nil _ _ _,by unfold farmRs;rw[if_pos (by rw[h];exact hne)];exact OwnR.nil _ _ _,hb⟩
theorem As.allAw_snoc (l:YLaw)(F:List FarmF)(f:FarmF):allAw l (F ++ [f])=allAw l F++farmAw l f:=by unfold allAw;rw[List.flatMap_append];simp
theorem As.allErr_snoc {l:YLaw}{F:List FarmF}(f:FarmF)(h:allErr l F=0):allErr l (F ++ [f])=farmErr l f:=by
 rw[allErr_append,if_neg (by rw[h];simp)];unfold allErr
 split
 ·rfl
 ·rename_i h;simp at h;rw[h];rfl
theorem As.allErr_bad {l:YLaw}{F:List FarmF}{k:Nat}(hk:k<F.length)(h:allErr l (F.take k)=0)(hne:farmErr l F[k]≠0):allErr l F=farmErr l F[k]:=by
 have e:F=F.take k++F[k]::F.drop (k+1):=by rw[← List.drop_eq_getElem_cons hk,List.take_append_drop]
 have h2:allErr l (F.take k++F[k]::F.drop (k+1))=farmErr l F[k]:=by
  rw[allErr_append,if_neg (by rw[h];simp)];unfold allErr;rw[if_pos hne]
 rw[← e]at h2;exact h2
def As.dueN (A:List Awd) (c:List Int) (j:Nat):List Awd:=A.mapIdx fun i a=>if i<j then { a with due:=c.getD i 0 } else a
theorem As.dueN_len (A:List Awd)(c:List Int)(j:Nat):(dueN A c j).length=A.length:=by unfold dueN;simp
theorem As.dueN_at (A:List Awd)(c:List Int)(j i:Nat)(h:i<(dueN A c j).length)(h' : i<A.length):(dueN A c j)[i]=if i<j then { A[i] with due:=c.getD i 0 } else A[i]:=by simp[dueN]
theorem As.dueN_zero (A:List Awd)(c:List Int):dueN A c 0=A:=by
 apply List.ext_getElem (dueN_len _ _ _)
 intro i h h'; rw[dueN_at _ _ _ _ h h', if_neg (by omega)]
theorem As.dueN_all (A:List Awd)(c:List Int):dueN A c A.length=setDue A c:=by
 apply List.ext_getElem (by rw[dueN_len,setDue_len])
 intro i h h'; rw[dueN_len]at h;rw[dueN_at _ _ _ _ _ h,if_pos h,setDue_at _ _ _ _ h]
theorem As.dueN_succ (A:List Awd)(c:List Int)(j:Nat)(h:j<(dueN A c j).length):dueN A c (j+1)=(dueN A c j).set j { (dueN A c j)[j] with due:=c.getD j 0 }:=by
 apply List.ext_getElem (by rw[List.length_set,dueN_len,dueN_len])
 intro i h1 h2;rw[dueN_len]at h1;rw[dueN_at _ _ _ _ _ h1,List.getElem_set]
 by_cases e:j=i
 ·subst e
  rw[if_pos rfl,if_pos (by omega),dueN_at _ _ _ _ _ h1,if_neg (by omega)]
 ·rw[if_neg e,dueN_at _ _ _ _ _ h1]
  by_cases h3:i<j
  ·rw[if_pos h3,if_pos (by omega)]
  ·rw[if_neg h3,if_neg (by omega)]
structure As.DuS (H B:Nat) (w0 wr:World) (va:Value) (A:List Awd) (pF:Option Addr) (C:List Int) (j:Nat):Prop where
 oa:OwnR SA wr 78 B va (dueN A C j)
 low:Below B w0 wr
 ints:Ints wr pF C
 nb:∀g,va.ownBlock=some g→g<H
 pf:∀a,pF=some a→H≤a.block
theorem As.DuS.set {H B:Nat}{w0 wr:World}{va:Value}{A:List Awd}{pF:Option Addr}{C:List Int}{j n:Nat}(h:DuS H B w0 wr va A pF C j)(hn:A.length=n)(hj:j<n) :
  ∃g c u,va = .slice (some ⟨g,0,none⟩) n c∧wr.cell? ⟨g,j*9+8,none⟩=some u∧wr.frozen? ⟨g,j*9+8,none⟩=false∧DuS H B w0 (wr.setCell ⟨g,j*9+8,none⟩ (I O (C.getD j 0))) va A pF C (j+1):=by
 have hl:(dueN A C j).length=n:=by rw[dueN_len,hn]
 obtain⟨p,c,e, -, -, -, -, -⟩:=h.oa.cut hl;have ho:=h.oa;rw[e]at ho;obtain⟨g,rfl, -,hB,hg,hcl,hf,hs⟩:=ho.at (show j<(dueN A C j).length by rw[hl];exact hj);have h9:SA.k=9:=rfl;rw[h9]at hcl hs;have hgo:va.ownBlock=some g:=by rw[e];rfl
 refine⟨g,c,_,e,hcl 8 _ rfl,hf _,⟨?_,h.low.setCell (show B≤g from hB) _,?_,h.nb,h.pf⟩⟩
 ·rw[e,dueN_succ _ _ _ (show j<(dueN A C j).length by rw[hl];exact hj)]
  exact hs 8 _ _ (by omega) rfl
 ·refine⟨h.ints.1,?_⟩
  rcases h.ints.2 with q|⟨b,off,q,hlt,hc⟩
  ·exact .inl q
  ·have:H≤b:=h.pf _ q
   have:=h.nb g hgo;exact .inr ⟨b,off,q,by simp[World.setCell];exact hlt,fun k hk=>(World.cell?_setCell_other _ _ _ _ (fun e=>by simp only[Addr.mk.injEq]at e;omega)).trans (hc k hk)⟩
def As.AsG (l:YLaw) (F:List FarmF) (w:World) (e:Ending) (w' : World):Prop :=
 ∃va,e = .returned (.tuple #[va,I O (assErr l F)])∧OwnR SA w' 78 w.heap.size va (assess l F)∧Below w.heap.size w w'
theorem As.AsG.err {l:YLaw}{F:List FarmF}{w w' : World}{er:Int}(h:assErr l F=er)(hne:er≠0)(hb:Below w.heap.size w w'):AsG l F w (.returned (.tuple #[.slice none 0 0,I O er])) w' :=
 ⟨.slice none 0 0,by rw[h],by unfold assess;rw[if_pos (by rw[h];exact hne)];exact OwnR.nil _ _ _,hb⟩
theorem dec_true {p:Prop} [Decidable p] (h:decide p=true):p:=of_decide_eq_true h
theorem dec_false {p:Prop} [Decidable p] (h:decide p=false):¬p:=of_decide_eq_false h
theorem refcheck_any (p:Option Addr)(D:List (Int × Int))(cap:Nat)(w:World)(h:Pairs w p D) :
  Calls Tryz.prog 109 #[.slice p D.length cap] w fun e w' => e = .returned (I O (Ce.chk D))∧∃n,w' = w.drewN n:=by
 have hn:=h.len
 by_cases h6:6<D.length
 ·have hc:Ce.chk D=66:=Ce.chk_not fun hR=>by have:=hR.len;omega
  rw[hc];clear h
  go_enter Tryz.func109,Tryz.ntmps109
  go_wp2
  go_ret
  exact⟨rfl,0,rfl⟩
 ·have H:=mh h
  clear h
  go_enter Tryz.func109,Tryz.ntmps109
  go_wp2
  go_loopw [3] (fun i wr=>∃k n:Nat,k≤D.length∧i=I O k∧(∀j,j<k→Ce.okAt D j=true)∧wr=w.drewN n) (fun i _=>D.length - (intOf i).toNat)
  case atStart=>exact⟨0,0,Nat.zero_le _,rfl,fun j hj=>absurd hj (Nat.not_lt_zero j),rfl⟩
  case round =>
   obtain⟨k,n,hk,rfl,hok,hwr⟩:=hrel;have HW:=mh hwr;have hcells:∀a,wr.cell? a=w.cell? a:=fun a=>by rw[hwr];rfl
   have HCE:=mh hcells;clear hwr hcells;have HOK:=mh hok;clear hok
   by_cases hlt:k<D.length
   ·obtain⟨b,off,x,y,rfl,hbl,hx0,hy0,hxy⟩:=H.out.get hlt
    rw[← HCE.out]at hx0 hy0;have hk0:(0:Int)≤(k:Int):=inn _;have hk1:(k:Int)<(D.length:Int):=by omega
    rcases Nat.eq_zero_or_pos k with rfl|hpos
    ·simp only[Nat.zero_mul,Nat.add_zero]at hx0 hy0
     rcases (show En.money x=false∨(En.money x=true∧decide (y<0)=true)∨(En.money x=true∧decide (y<0)=false∧decide (1000<y)=true)∨(En.money x=true∧decide (y<0)=false∧decide (1000<y)=false) by
      cases En.money x<;>simp<;>omega) with m|⟨m,b1⟩|⟨m,b1,b2⟩|⟨m,b1,b2⟩
     case inr.inr.inr =>
      have hO:=mh (okAt_yes (lx:=0) (ly:=0) hxy.out (fun h=>absurd rfl h) m (dec_false b1) (dec_false b2) (by have:=dec_false b1;omega) (by omega))
      go_wp2_with fail
      go_quiet ((go_at_call 62;exact Calls.quiet_of_same (Calls.turn (refmoney_any _ _))))
      go_wp2
      go_roundw
      case rel=>exact⟨1,_,by omega,by go_num,fun j hj=>(show j=0 by omega)▸hO.out,by rw[HW.out];exact drewN_two _ _ _⟩
      case measure=>simp[intOf];omega
     all_goals
      have hB:=mh (chk_bad hlt (okAt_not (lx:=0) (ly:=0) hxy.out (fun h=>absurd rfl h) (fun _=>⟨rfl,rfl⟩) (by first|exact .inl m|exact .inr (.inl (dec_true b1))|exact .inr (.inr (.inl (dec_true b2))))))
      go_wp2_with fail
      go_quiet ((go_at_call 62;exact Calls.quiet_of_same (Calls.turn (refmoney_any _ _))))
      go_wp2
      go_ret
      exact⟨by rw[hB.out];rfl,_,by rw[HW.out];exact drewN_two _ _ _⟩
    ·obtain⟨k', rfl⟩:∃k', k=k' + 1:=⟨k - 1,by omega⟩
     obtain⟨b', off', lx,ly,e, -,hlx0,hly0,hlxy⟩:=H.out.get (k:=k') (by omega);rw[← HCE.out]at hlx0 hly0;simp only[Option.some.injEq,Addr.mk.injEq]at e;obtain⟨rfl,rfl, -⟩:=e;have hw:IntKind.i64.wrap ((k' : Int)+1 - 1)=(k' : Int):=by rw[IntKind.wrap_i64];omega
     have hk0' : (0:Int)≤(k' : Int)+1:=by omega
     have hk1' : (k' : Int)+1<(D.length:Int):=by omega
     have hk2' : (0:Int)<(k' : Int)+1:=by omega
     have hq0:(0:Int)≤(k' : Int):=inn _;have hq1:(k' : Int)<(D.length:Int):=by omega
     rcases (show En.money x=false∨(En.money x=true∧decide (y<0)=true)∨(En.money x=true∧decide (y<0)=false∧decide (1000<y)=true)∨(En.money x=true∧decide (y<0)=false∧decide (1000<y)=false∧decide (x≤lx)=true)∨(En.money x=true∧decide (y<0)=false∧decide (1000<y)=false∧decide (x≤lx)=false∧decide (y<ly)=true)∨(En.money x=true∧decide (y<0)=false∧decide (1000<y)=false∧decide (x≤lx)=false∧decide (y<ly)=false) by
      cases En.money x<;>simp<;>omega) with m|⟨m,b1⟩|⟨m,b1,b2⟩|⟨m,b1,b2,b3⟩|⟨m,b1,b2,b3,b4⟩|⟨m,b1,b2,b3,b4⟩
     case inr.inr.inr.inr.inr =>
      have hO:=mh (okAt_yes (lx:=lx) (ly:=ly) hxy.out (fun _=>hlxy.out) m (dec_false b1) (dec_false b2) (dec_false b4) (fun h=>dec_false b3 h.2))
      go_wp2_with fail
      go_quiet ((go_at_call 62;exact Calls.quiet_of_same (Calls.turn (refmoney_any _ _))))
      go_wp2
      go_roundw
      case rel=>exact⟨k' + 1+1,_,by omega,by go_num,fun j hj=>by
       by_cases e:j=k' + 1
       ·rw[e];exact hO.out
       ·exact HOK.out j (by omega),by rw[HW.out];exact drewN_two _ _ _⟩
      case measure=>simp[intOf];omega
     all_goals
      have hB:=mh (chk_bad hlt (okAt_not (lx:=lx) (ly:=ly) hxy.out (fun _=>hlxy.out) (fun h=>absurd h (by omega)) (by first|exact .inl m|exact .inr (.inl (dec_true b1))|exact .inr (.inr (.inl (dec_true b2)))|exact .inr (.inr (.inr (.inl (dec_true b4))))|exact .inr (.inr (.inr (.inr ⟨hpos,dec_true b3⟩))))))
      go_wp2_with fail
      go_quiet ((go_at_call 62;exact Calls.quiet_of_same (Calls.turn (refmoney_any _ _))))
      go_wp2
      go_ret
      exact⟨by rw[hB.out];rfl,_,by rw[HW.out];exact drewN_two _ _ _⟩
   ·obtain rfl:k=D.length:=by omega
    have hc:=mh (show Ce.chk D=0 from Ce.chk_zero.2 ⟨by omega,HOK.out⟩);clear hlt hk
    go_wp2
    go_ret
    exact⟨by rw[hc.out];rfl,n,HW.out⟩
theorem fr_eq {D:List (Int × Int)}{k:Nat}{x y:Int}(h:D.getD k (0,0)=(x,y)):Ce.fr D k=x:=by unfold Ce.fr;rw[h]
theorem mi_eq {D:List (Int × Int)}{k:Nat}{x y:Int}(h:D.getD k (0,0)=(x,y)):Ce.mi D k=y:=by unfold Ce.mi;rw[h]
theorem cut_facts {D:List (Int × Int)}{k:Nat}{x y a:Int}(hR:Ce.Right D)(hk:k<D.length)(h:D.getD k (0,0)=(x,y))(a0:0≤a)(a1:a≤68719476736) :
  (0≤x∧x≤68719476736)∧(0≤y∧y≤1000)∧(0≤Ce.span D a k∧Ce.span D a k≤68719476736)∧(0≤Ce.span D a k*y∧Ce.span D a k*y≤68719476736000)∧Ce.cut D a k=Ex.up (Ce.span D a k*y) 1000∧Ce.span D a k=max 0 (Ce.till D a k - x):=by
 have h1:=hR.fr0 hk;have h2:=hR.mi0 hk;have h3:=hR.span_bd a0 a1 hk;have h4:Ce.cut D a k=Ex.up (Ce.span D a k*Ce.mi D k) 1000:=rfl;have h5:Ce.span D a k=max 0 (Ce.till D a k - Ce.fr D k):=rfl;rw[fr_eq h]at h1 h5;rw[mi_eq h]at h2 h4;refine⟨h1,h2,h3,⟨Int.mul_nonneg h3.1 h2.1,?_⟩,h4,h5⟩;have:=Int.mul_le_mul h3.2 h2.2 h2.1 (show(0:Int)≤68719476736 by omega);omega
open Te
def tw (L:List Sch) (i:Nat) (s:Sch) (j:Nat):Bool:=match L[j]? with|some x=>nmIs s.nm x||(decide (j+1=i)&&decide (s.num≤x.num))|none=>false
theorem tw_at {L:List Sch}{i j:Nat}{s:Sch}(hj:j<L.length):tw L i s j=(nmIs s.nm L[j]||(decide (j+1=i)&&decide (s.num≤L[j].num))):=by
 unfold tw;rw[List.getElem?_eq_getElem hj]
theorem twice_tw {L:List Sch}{i:Nat}{s:Sch}(hi:i≤L.length):twice L i s=true↔∃j,j<i∧tw L i s j=true:=by
 have hany:(L.take i).any (fun x=>x.nm.data.toList==s.nm.data.toList)=true↔∃j,∃h:j<L.length,j<i∧nmIs s.nm L[j]=true:=by
  rw[List.any_eq_true]
  constructor
  ·rintro ⟨x,hx,hp⟩
   obtain⟨j,hj,rfl⟩:=List.mem_iff_getElem.1 hx;rw[List.length_take]at hj;refine⟨j,by omega,by omega,?_⟩;rw[List.getElem_take]at hp;exact hp
  ·rintro ⟨j,hj,hji,hp⟩
   exact⟨L[j],List.mem_iff_getElem.2 ⟨j,by rw[List.length_take];omega,List.getElem_take⟩,hp⟩
 unfold twice;rw[Bool.or_eq_true,hany]
 constructor
 ·rintro (h|⟨j,hj,hji,hp⟩)
  ·cases i with
   | zero=>cases h
   | succ k =>
     simp only at h;rw[List.getElem?_eq_getElem (show k<L.length by omega)]at h;simp only at h;exact⟨k,by omega,by rw[tw_at (by omega),h];simp⟩
  ·exact⟨j,hji,by rw[tw_at hj,hp,Bool.true_or]⟩
 ·rintro ⟨j,hj,h⟩
  rw[tw_at (show j<L.length by omega),Bool.or_eq_true]at h
  rcases h with h|h
  ·exact .inr ⟨j,by omega,hj,h⟩
  ·rw[Bool.and_eq_true,decide_eq_true_eq]at h
   obtain⟨h1,h2⟩:=h;subst h1
   left
   simp only;rw[List.getElem?_eq_getElem (show j<L.length by omega)];exact h2
theorem twice_yes {L:List Sch}{i j:Nat}{s:Sch}(hi:i≤L.length)(hj:j<i)(h:tw L i s j=true):twice L i s=true:=(twice_tw hi).2 ⟨j,hj,h⟩
theorem twice_no {L:List Sch}{i:Nat}{s:Sch}(hi:i≤L.length)(h:∀j,j<i→tw L i s j=false):twice L i s=false:=by
 rw[Bool.eq_false_iff];intro h2;obtain⟨j,hj,h3⟩:=(twice_tw hi).1 h2;rw[h j hj]at h3
 cases h3
theorem refcheck17_any {Q:Nat→Prop}(d:Nat)(p:Option Addr)(L:List Sch)(cap:Nat)(w:World)(h:SsAt Q w d p L)(hz:∀s∈L,s.nm.size≤9223372036854775807)(hcap:L.length≤cap)(hct:∀s∈L,count s.cond≤1099511627776) :
  Calls Tryz.prog 101 #[.slice p L.length cap] w (ChkG (chk17 L) w):=by
 have hlen:=h.len;have H:=mh h;have HZ:=mh hz;have HCT:=mh hct;clear h hz hct;obtain⟨cv,ecv⟩:∃v,chk17 L=v:=⟨_,rfl⟩;rw[ecv];have ECV:=mh ecv;clear ecv
 by_cases h16:16<L.length
 ·have HV:=mh (show cv=(0,1) from ECV.out▸chk_long h16)
  go_enter Tryz.func101,Tryz.ntmps101
  go_wp2
  go_ret2
  exact⟨by rw[HV.out];rfl,brf _ _⟩
 go_enter Tryz.func101,Tryz.ntmps101
 go_wp2
 go_loopw [18] (fun i wr=>∃k:Nat,k≤L.length∧i=I O k∧(∀j,j<k→errA L j=0)∧Below w.heap.size w wr) (fun i _=>L.length - (intOf i).toNat)
 case atStart=>exact⟨0,Nat.zero_le _,rfl,fun j hj=>absurd hj (Nat.not_lt_zero j),brf _ _⟩
 case round =>
  obtain⟨wo,rfl⟩:∃wo:World,wo=wr:=⟨_,rfl⟩;obtain⟨k,hk,rfl,ha,hb⟩:=hrel;have HAL:=mh ha;have HB:=mh hb;have hk0:(0:Int)≤(k:Int):=inn _
  by_cases hlt:k<L.length
  ·have hk1:(k:Int)<(L.length:Int):=by omega
   obtain⟨b,off,r,rfl,hbl,hC,hv⟩:=(H.out.below hb).at hlt;have CV:=mh (refone_any d r L[k] _ (hv.below (balloc mle (brf _ _) (.cells (sCells r).toArray 112))) (by rw[hv.nm];exact HZ.out _ (List.getElem_mem hlt)) (HCT.out _ (List.getElem_mem hlt)));have RN:=mh hv.nm;have RU:=mh hv.num;obtain⟨c0,c1,c2,c3,c4,c5,c6,c7,c8,c9⟩:=hC;obtain⟨num,nm,⟨o,tn,tm,tp,tl,tc⟩,bp,bn,bc,least,ex,needs⟩:=r;simp only at c0 c1 c2 c3 c4 c5 c6 c7 c8 c9 RN RU;simp only[sCells]at CV;have HBA:=mh (balloc mle HB.out (.cells #[I O num,.string nm,I O o,I O tn,I O tm,.slice tp tl tc,.slice bp bn bc,I O least,I O ex,.bool needs] 112));obtain⟨v,ev⟩:∃v,one17 L[k]=v:=⟨_,rfl⟩;have EV:=mh ev;rw[ev]at CV;clear ha hb hv ev
   by_cases hv0:v=0
   ·subst hv0
    have E6:=mh (fun (h:twice L k L[k]=true)=>(show cv=((k:Int),6) from by rw[← ECV.out,chk_A h16 hlt HAL.out (by rw[errA_twice hlt EV.out,if_pos h];decide),errA_twice hlt EV.out,if_pos h]));have E0:=mh (fun (h:twice L k L[k]=false)=>(show errA L k=0 from by rw[errA_twice hlt EV.out,if_neg (by rw[h];decide)]));have hkc:(k:Int)≤(cap:Int):=by omega
    go_wp2_with (first|(go_at_call 121;(with_reducible refine cmo CV.out ?_);rintro e w1 ⟨rfl,hb1⟩;have HB1:=mh (bstep mle HBA.out hb1);have HZ1:=mh (show wo.heap.size<w1.heap.size from nll (by simp) hb1.size);have V0:=mh (mcell hb1 0);have V1:=mh (mcell hb1 1);clear hb1))
    have HS1:=mh (show wo.heap.size<w1.heap.size from HZ1.out)
    go_loopw [33] (fun i wr=>∃j:Nat,j≤k∧i=I O j∧(∀m,m<j→tw L k L[k] m=false)∧Below w1.heap.size w1 wr) (fun i _=>k - (intOf i).toNat)
    case atStart=>exact⟨0,Nat.zero_le _,rfl,fun j hj=>absurd hj (Nat.not_lt_zero j),brf _ _⟩
    case round =>
     obtain⟨wi,rfl⟩:∃wi:World,wi=wr:=⟨_,rfl⟩;obtain⟨j,hj,rfl,ht,hbi⟩:=hrel;have HT:=mh ht;have HBI:=mh hbi;have hx0:=(hbi.cell (p:=⟨wo.heap.size,0,none⟩) HS1.out).trans V0.out;have hx1:=(hbi.cell (p:=⟨wo.heap.size,1,none⟩) HS1.out).trans V1.out;have HIS:=mh (nll HS1.out hbi.size)
     by_cases hjk:j<k
     ·have hj0:(0:Int)≤(j:Int):=inn _
      have hj1:(j:Int)<(k:Int):=by omega
      have hj2:(j:Int)<(L.length:Int):=by omega
      obtain⟨b', off', y,ey,hyl,hY,hyv⟩:=(H.out.below (bstep mle HB1.out hbi)).at (show j<L.length by omega)
      cases ey
      have YN:=mh hyv.nm;have YU:=mh hyv.num;obtain⟨y0,y1,y2,y3,y4,y5,y6,y7,y8,y9⟩:=hY;obtain⟨ynum,ynm,⟨yo,ytn,ytm,ytp,ytl,ytc⟩,ybp,ybn,ybc,yleast,yex,yneeds⟩:=y;simp only at y0 y1 y2 y3 y4 y5 y6 y7 y8 y9 YN YU;have HBJ:=mh (balloc mle hbi (.cells #[I O ynum,.string ynm,I O yo,I O ytn,I O ytm,.slice ytp ytl ytc,.slice ybp ybn ybc,I O yleast,I O yex,.bool yneeds] 112));have gx0:(wi.alloc (.cells #[I O ynum,.string ynm,I O yo,I O ytn,I O ytm,.slice ytp ytl ytc,.slice ybp ybn ybc,I O yleast,I O yex,.bool yneeds] 112)).cell? ⟨wo.heap.size,0,none⟩=some (I O num):=(World.cell?_alloc_past _ _ _ HIS.out).trans hx0;have gx1:(wi.alloc (.cells #[I O ynum,.string ynm,I O yo,I O ytn,I O ytm,.slice ytp ytl ytc,.slice ybp ybn ybc,I O yleast,I O yex,.bool yneeds] 112)).cell? ⟨wo.heap.size,1,none⟩=some (.string nm):=(World.cell?_alloc_past _ _ _ HIS.out).trans hx1;have TW:=mh (tw_at (L:=L) (i:=k) (s:=L[k]) (show j<L.length by omega));obtain⟨nb,enb⟩:∃x,(ynm.toList==nm.toList)=x:=⟨_,rfl⟩;have ENB:=mh (show nmIs L[k].nm L[j]=nb from by rw[← enb,bytes_eq,YN.out,RN.out];rfl);have hwi:IntKind.i64.wrap ((k:Int) - 1)=(k:Int) - 1:=by rw[IntKind.wrap_i64];omega
      clear ht hbi hyv
      cases nb
      ·have LST:=mh (fun (z:Bool) (hz:(decide (j+1=k)&&decide (num≤ynum))=z)=>show tw L k L[k] j=z from by rw[TW.out,ENB.out,Bool.false_or,← RU.out,← YU.out];exact hz)
       by_cases hjl:j+1=k
       ·have g1:((j:Int)==(k:Int) - 1)=true:=beq_iff_eq.2 (by omega)
        by_cases hle:num≤ynum
        ·have d1:decide (num≤ynum)=true:=dqt hle
         have HV:=mh (E6.out (twice_yes (by omega) hjk (LST.out true (by rw[dqt hjl,d1];rfl))));clear hle hjl
         go_wp2
         go_ret2
         exact⟨by rw[HV.out];rfl,bstep mle HB1.out HBJ.out⟩
        ·have d1:decide (num≤ynum)=false:=dqf hle
         have HV:=mh (LST.out false (by rw[d1,Bool.and_false]));clear hle hjl
         go_wp2
         go_roundw
         case rel=>exact⟨j+1,by omega,by go_num,fun m hm=>by
          by_cases e:m=j
          ·subst e;exact HV.out
          ·exact HT.out m (by omega),HBJ.out⟩
         case measure=>simp[intOf];omega
       ·have g1:((j:Int)==(k:Int) - 1)=false:=beq_eq_false_iff_ne.2 (by omega)
        have HV:=mh (LST.out false (by rw[dqf hjl,Bool.false_and]));clear hjl
        go_wp2
        go_roundw
        case rel=>exact⟨j+1,by omega,by go_num,fun m hm=>by
         by_cases e:m=j
         ·subst e;exact HV.out
         ·exact HT.out m (by omega),HBJ.out⟩
        case measure=>simp[intOf];omega
      ·have HV:=mh (E6.out (twice_yes (by omega) hjk (by rw[TW.out,ENB.out,Bool.true_or])))
       go_wp2
       go_ret2
       exact⟨by rw[HV.out];rfl,bstep mle HB1.out HBJ.out⟩
     ·obtain rfl:j=k:=by omega
      have HV:=mh (E0.out (twice_no (by omega) HT.out));clear ht hbi
      go_wp2
      go_roundw
      case rel=>exact⟨j+1,by omega,by go_num,fun m hm=>by
       by_cases e:m=j
       ·subst e;exact HV.out
       ·exact HAL.out m (by omega),bstep mle HB1.out HBI.out⟩
      case measure=>simp[intOf];omega
   ·have HV:=mh (show cv=((k:Int),v) from by rw[← ECV.out,chk_A h16 hlt HAL.out (by rw[errA_one hlt (by rw[EV.out];exact hv0),EV.out];exact hv0),errA_one hlt (by rw[EV.out];exact hv0),EV.out])
    go_wp2_with (first|(go_at_call 121;(with_reducible refine cmo CV.out ?_);rintro e w1 ⟨rfl,hb1⟩;have HB1:=mh (bstep mle HBA.out hb1);have HZ1:=mh (show wo.heap.size<w1.heap.size from nll (by simp) hb1.size);have V0:=mh (mcell hb1 0);have V1:=mh (mcell hb1 1);clear hb1))
    go_ret2
    exact⟨by rw[HV.out];rfl,HB1.out⟩
  ·obtain rfl:k=L.length:=by omega
   clear ha hb;have HBO:=HB
   go_wp2
   go_loopw [61] (fun i wr=>∃k:Nat,k≤L.length∧i=I O k∧(∀j,j<k→errB L j=0)∧Below w.heap.size w wr) (fun i _=>L.length - (intOf i).toNat)
   case atStart=>exact⟨0,Nat.zero_le _,rfl,fun j hj=>absurd hj (Nat.not_lt_zero j),HBO.out⟩
   case round =>
    obtain⟨wp,rfl⟩:∃wp:World,wp=wr:=⟨_,rfl⟩;obtain⟨k,hk,rfl,ha,hb⟩:=hrel;have HBL:=mh ha;have HC:=mh hb;have hk0' : (0:Int)≤(k:Int):=inn _
    by_cases hlt:k<L.length
    ·have hk1:(k:Int)<(L.length:Int):=by omega
     obtain⟨b,off,r,rfl,hbl,hCc,hv⟩:=(H.out.below hb).at hlt;have HN:=errA_num hlt (HAL.out k hlt);have RU:=mh hv.num;have RE:=mh hv.ex;obtain⟨c0,c1,c2,c3,c4,c5,c6,c7,c8,c9⟩:=hCc;obtain⟨num,nm,⟨o,tn,tm,tp,tl,tc⟩,bp,bn,bc,least,ex,needs⟩:=r;simp only at c0 c1 c2 c3 c4 c5 c6 c7 c8 c9 RU RE;have HBA:=mh (balloc mle HC.out (.cells #[I O num,.string nm,I O o,I O tn,I O tm,.slice tp tl tc,.slice bp bn bc,I O least,I O ex,.bool needs] 112));have ER:=mh (errB_at hlt);obtain⟨s,es⟩:∃s,L[k]=s:=⟨_,rfl⟩;have h0:0≤num:=by rw[RU.out];exact HN.1
     have h15:num≤15:=by rw[RU.out];exact HN.2
     have RU2:=mh (show num=s.num from es▸RU.out);have RE2:=mh (show ex=s.ex from es▸RE.out);rw[es]at ER;clear ha hb hv HN es RU RE
     go_wp2_with (fail)
     obtain⟨W1,eW1⟩:∃W:World,W=wp.alloc (.cells #[I O num,.string nm,I O o,I O tn,I O tm,.slice tp tl tc,.slice bp bn bc,I O least,I O ex,.bool needs] 112):=⟨_,rfl⟩;have HS1:=mh (show wp.heap.size<W1.heap.size by rw[eW1];simp);have V0:=mh (show W1.cell? ⟨wp.heap.size,0,none⟩=some (I O num) from by rw[eW1];exact cwn _ _ _ 0);have V5:=mh (show W1.cell? ⟨wp.heap.size,8,none⟩=some (I O ex) from by rw[eW1];exact cwn _ _ _ 8);have HB1:=mh (show Below w.heap.size w W1 from by rw[eW1];exact HBA.out);rw[← eW1];clear eW1
     go_loopw [11] (fun i wr=>∃n:Nat,n≤16∧i=I O n∧(List.range n).all (mutN L s)=true∧Below W1.heap.size W1 wr) (fun i _=>16 - (intOf i).toNat)
     case atStart=>exact⟨0,Nat.zero_le _,rfl,rfl,brf _ _⟩
     case round =>
      obtain⟨wi,rfl⟩:∃wi:World,wi=wr:=⟨_,rfl⟩;obtain⟨n,hn,rfl,hm,hbi⟩:=hrel;have HM:=mh hm;have HBI:=mh hbi;have HBW:=mh (bstep mle HB1.out hbi);have hx0:=(hbi.cell (p:=⟨wp.heap.size,0,none⟩) HS1.out).trans V0.out;have hx8:=(hbi.cell (p:=⟨wp.heap.size,8,none⟩) HS1.out).trans V5.out;have HSZ:=mh (nll HS1.out hbi.size);obtain⟨i,ei⟩:∃i:Int,(n:Int)=i:=⟨_,rfl⟩;have EI:=mh ei;have hi0:(0:Int)≤i:=by omega
      rw[ei]
      by_cases hlt2:n<16
      ·have hi1:i<16:=by omega
       have hi2:i≤15:=by omega
       cases eb:bitB ex i
       ·have EB:(bits BinOp.and IntKind.i64 (ex / 2 ^ i.toNat) 1==0)=true:=by rw[bit_zero,eb];rfl
        have HM2:=mh (show(List.range (n+1)).all (mutN L s)=true by rw[all_range_succ,HM.out,mut_zero (by rw[← RE2.out,EI.out];exact eb)];rfl);clear hm hbi eb ei
        go_wp2
        go_roundw
        case rel=>exact⟨n+1,by omega,by rw[← EI.out];go_num,HM2.out,HBI.out⟩
        case measure=>rw[← EI.out];simp[intOf];omega
       ·have EB:(bits BinOp.and IntKind.i64 (ex / 2 ^ i.toNat) 1==0)=false:=by rw[bit_zero,eb];rfl
        have EBH:=mh (show bitB s.ex n=true by rw[← RE2.out,EI.out];exact eb);have CF:=mh (reffind17_any d (some ⟨b,off,none⟩) L cap i wi (H.out.below HBW.out));have FG:=mh (find17_ge L i);obtain⟨f,ef⟩:∃f,find17 L i=f:=⟨_,rfl⟩;rw[ef]at CF FG;have EF:=mh (show find17 L n=f by rw[EI.out];exact ef);have BAD:=mh (fun (h:mutN L s n=false)=>show cv=((k:Int),17) from by rw[← ECV.out,chk_B h16 HAL.out hlt HBL.out (by rw[ER.out,mut_bad hlt2 h];decide)]);clear hm hbi eb ei ef
        rcases Int.lt_or_le f 0 with hf|hf
        ·have HV:=mh (BAD.out (mut_none EBH.out (by rw[EF.out];exact hf)))
         have d1:decide (f<0)=true:=dqt hf;clear hf
         go_wp2_with (first|(go_at_call 122;(with_reducible refine cmo CF.out ?_);rintro e w1 ⟨rfl,hb1⟩;have HB2:=mh (bstep mle HBW.out hb1);clear hb1))
         go_quiet (fail)
         go_wp2
         go_ret2
         exact⟨by rw[HV.out];rfl,HB2.out.trans ((drewN_below _ _).mono HB2.out.size)⟩
        ·have d1:decide (f<0)=false:=by rw[decide_eq_false_iff_not];omega
         obtain⟨j,rfl⟩:=Int.eq_ofNat_of_zero_le hf;have hj:j<L.length:=by have:=FG.out;omega
         have MS:=mh (mut_some EBH.out EF.out hj);obtain⟨b', off', x,ex', hbl2,hC,hv⟩:=(H.out.below HBW.out).at hj
         cases ex'
         have C8:=mh hC.c8;have hxe:=hv.ex;have hj0' : (0:Int)≤(j:Int):=inn _;have hj1' : (j:Int)<(L.length:Int):=by omega
         obtain⟨xe,exe⟩:∃xe,x.ex=xe:=⟨_,rfl⟩;rw[exe]at C8 hxe;have EN:=RU2.out
         cases eb2:bitB xe num
         ·have EB2:(bits BinOp.and IntKind.i64 (xe / 2 ^ num.toNat) 1==0)=true:=by rw[bit_zero,eb2];rfl
          have HV:=mh (BAD.out (by rw[MS.out,← hxe,← EN];exact eb2));clear hf hC hv eb2 hxe exe EN
          go_wp2_with (first|(go_at_call 122;(with_reducible refine cmo CF.out ?_);rintro e w1 ⟨rfl,hb1⟩;have HB2:=mh (bstep mle HBW.out hb1);have HB3:=mh (bstep mle HBI.out hb1);have hj0:=(hb1.cell (p:=⟨wp.heap.size,0,none⟩) HSZ.out).trans hx0;have hx8' := (hb1.cell (p:=⟨b,off+j*10+8,none⟩) hbl2).trans C8.out;clear hb1))
          go_quiet (fail)
          go_wp2
          go_ret2
          exact⟨by rw[HV.out];rfl,HB2.out.trans ((drewN_below _ _).mono HB2.out.size)⟩
         ·have EB2:(bits BinOp.and IntKind.i64 (xe / 2 ^ num.toNat) 1==0)=false:=by rw[bit_zero,eb2];rfl
          have HM2:=mh (show(List.range (n+1)).all (mutN L s)=true by rw[all_range_succ,HM.out,MS.out,← hxe,← EN,eb2];rfl);clear hf hC hv eb2 hxe exe EN
          go_wp2_with (first|(go_at_call 122;(with_reducible refine cmo CF.out ?_);rintro e w1 ⟨rfl,hb1⟩;have HB2:=mh (bstep mle HBW.out hb1);have HB3:=mh (bstep mle HBI.out hb1);have hj0:=(hb1.cell (p:=⟨wp.heap.size,0,none⟩) HSZ.out).trans hx0;have hx8' := (hb1.cell (p:=⟨b,off+j*10+8,none⟩) hbl2).trans C8.out;clear hb1))
          go_quiet (fail)
          go_wp2
          go_roundw
          case rel=>exact⟨n+1,by omega,by rw[← EI.out];go_num,HM2.out,HB3.out.trans ((drewN_below _ _).mono HB3.out.size)⟩
          case measure=>rw[← EI.out];simp[intOf];omega
      ·obtain rfl:n=16:=by omega
       have HV:=mh (show errB L k=0 from by rw[ER.out,if_pos (show mutual17 L s=true from hm)]);have hi1:i=16:=ei.symm;clear hm hbi ei;subst hi1
       go_wp2
       go_roundw
       case rel=>exact⟨k+1,by omega,by go_num,fun j hj=>by
        by_cases e:j=k
        ·subst e;exact HV.out
        ·exact HBL.out j (by omega),HBW.out⟩
       case measure=>simp[intOf];omega
    ·obtain rfl:k=L.length:=by omega
     have HV:=mh (show cv=(-1,0) from ECV.out▸chk_ok h16 HAL.out HBL.out);clear ha hb
     go_wp2
     go_ret2
     exact⟨by rw[HV.out];rfl,HC.out⟩
end Go.Proofs.YtljibgchickcpaaGreatDoor
