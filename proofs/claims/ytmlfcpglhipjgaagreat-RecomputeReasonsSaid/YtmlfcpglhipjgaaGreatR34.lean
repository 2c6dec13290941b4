/-
  PACKED (pack8.py): what is needed of the texts Xl, Xm, Xu, Xv.
-/
import Derived.Test.YtmlfcpglhipjgaaGreatR30
set_option maxRecDepth 100000
set_option maxHeartbeats 8000000
open Go.Value renaming int → I
open Go.IntKind renaming i64 → O
namespace Go.Proofs.YtmlfcpglhipjgaaGreat
open Go.RowKit Sc As
theorem zeroCells_size (z : Array Value) (n : Nat) : (Builtin.zeroCells z n).size = n * z.size := by
 unfold Builtin.zeroCells; rw [Array.size_map, Array.size_range]
theorem run_append_make {P : Program} (w : World) (t ty ti e : TypeId) (i : TypeInfo) (z : Value) (ht : P.underlying t = some (.slice e)) (hti : P.underlying ti = some (.int .i64)) (hi : P.info? e = some i) (hz : i.zero = some z)
  (hs : 0 < i.size) (n : Nat) (h0 : 0 < n) (h63 : (n : Int) ≤ 1099511627776) (hb : i.bytes ≤ 64) :
  (Builtin.append_ #[t, ti] ty #[.slice none 0 0, I O (n : Int)]).run P w =
   .ok (.slice (some ⟨w.heap.size, 0, none⟩) n (grownCap w n 0 e)) (w.drew.alloc (.cells (Builtin.zeroCells z.cells n ++ Builtin.zeroCells z.cells (grownCap w n 0 e - n)) e)) := by
 have hn : n ≠ 0 := by omega
 have h63' : ¬ (9223372036854775807 < (n : Int)) := by omega
 have hm : n * i.bytes ≤ 1099511627776 * 64 := Nat.mul_le_mul (by omega) hb; have h48' : ¬ (281474976710656 < Builtin.nextslicecap n 0 * i.bytes) := by rw [nextslicecap_zero h0]; omega
 have h48i : ¬ (281474976710656 < (n : Int) * (i.bytes : Int)) := by
  have : ((n * i.bytes : Nat) : Int) = (n : Int) * (i.bytes : Int) := Int.natCast_mul _ _; omega
 have hw : IntKind.i64.wrap (n : Int) = (n : Int) := by rw [IntKind.wrap_i64]; omega
 have hneg : ¬ ((n : Int) < 0) := by omega
 have hns : ¬ (n * i.size = 0) := by rw [Nat.mul_eq_zero]; omega
 simp [Builtin.append_, run_underlying ht, run_underlying hti, sizeOf, typeInfo, zeroValue, hi, hz, Builtin.lenOf, hn, h63', h48', h48i, hw, hneg, hns, Question.forced, run_firstCells_none, newRow, grownCap, asInt, asIntOf]
theorem info_farm_ex : ∃ i z, Tryz.prog.info? 47 = some i ∧ i.zero = some z ∧ i.size = 3 ∧ i.bytes = 40 ∧ z.cells.size = 3 := by
 obtain ⟨i, h1, h2, h3, h4⟩ := info_parts info_farm; exact ⟨i, _, h1, h2, h3, h4, rfl⟩
section
attribute [-go_sem] Builtin.append_
theorem growF_any (n : Nat) (hn : n ≤ 1000000) (w : World) :
  Calls Tryz.prog 122 #[.slice none 0 0, I O (n : Int)] w fun e w' => ∃ v, e = .returned v ∧ OwnR SF w' 47 w.heap.size v [] ∧ Below w.heap.size w w' := by
 have hn0 : (0 : Int) ≤ (n : Int) := inn _
 rcases Nat.eq_zero_or_pos n with hz | hz
 ·subst hz
  rw [show ((0 : Nat) : Int) = 0 from rfl]
  go_enter Tryz.func122, Tryz.ntmps122
  go_wp2
  go_ret
  exact ⟨_, rfl, OwnR.nil _ _ _, brf _ _⟩
 ·obtain ⟨i, z, h1, h2, h3, h4, h5⟩ := info_farm_ex
  have hni : (n : Int) ≤ 1000000 := by omega
  have hpos : (0 : Int) < (n : Int) := by omega
  have hposn : decide (0 < n) = true := dqt hz; obtain ⟨ZS, hz2, RA⟩ : ∃ ZS : Nat → Array Value, (∀ c, n ≤ c → (ZS c).size = c * 3) ∧ ∀ (W : World) (ty : TypeId), (Builtin.append_ #[30, 3] ty #[.slice none 0 0, I O (n : Int)]).run Tryz.prog W = .ok (.slice (some ⟨W.heap.size, 0, none⟩) n (grownCap W n 0 47)) (W.drew.alloc (.cells (ZS (grownCap W n 0 47)) 47)) := by
   refine ⟨fun c => Builtin.zeroCells z.cells n ++ Builtin.zeroCells z.cells (c - n), fun c hc => ?_, fun W ty => run_append_make (P := Tryz.prog) W 30 ty 3 47 i z Tryz.underlying30 Tryz.underlying3 h1 h2 (by omega) n hz (by omega) (by omega)⟩
   show (Builtin.zeroCells z.cells n ++ Builtin.zeroCells z.cells (c - n)).size = c * 3
   rw [Array.size_append, zeroCells_size, zeroCells_size, h5]; omega
  have HZ := mh hz2; clear h1 h2 h3 h4 h5 hz2
  go_enter Tryz.func122, Tryz.ntmps122
  go_wp2
  go_ret
  have hc := grownCap_ge w n 0 47; have hm := grownCap_le_maxLen w n 0 47 (by unfold maxLen; omega); exact ⟨_, rfl, ⟨rfl, .inr ⟨w.heap.size, _, ZS (grownCap w n 0 47), rfl, Nat.le_refl _, World.alloc_heap_new w (.cells (ZS (grownCap w n 0 47)) 47), Nat.zero_le _, hm, HZ.out _ hc, by simp [Shape.flat]⟩⟩, ((brf w.heap.size w).alloc mle _).drew⟩
end
end Go.Proofs.YtmlfcpglhipjgaaGreat
namespace Go.Proofs.YtmlfcpglhipjgaaGreat
open Go.RowKit Sc As
theorem run_append_none_cap {P : Program} {w : World} (base : Nat) (t ty e : TypeId) (i : TypeInfo) (size : Nat) (ht : P.underlying t = some (.slice e)) (hi : P.info? e = some i)
  (v : Value) (n c : Nat) (xs : List Value) (hown : w.ownsRow base e size v n xs) : (Builtin.append_ #[t, t] ty #[v, .slice none 0 c]).run P w = .ok v w := by
 rcases hown.2 with ⟨rfl, rfl⟩ | ⟨g, cap, cur, rfl, _, _, hnc, _⟩
 ·simp [Builtin.append_, run_underlying ht, sizeOf, typeInfo, hi, Builtin.lenOf, Builtin.firstCells]
 ·simp [Builtin.append_, run_underlying ht, sizeOf, typeInfo, hi, Builtin.lenOf, Builtin.firstCells, hnc, storeCells]
theorem OwnR.appendAny {α : Type} {S : Shape α} {P : Program} {T TS : TypeId} {bytes : Nat} (he : Elem S P T TS bytes) {w : World} {ops : Array Oper} {rest : List Oper} {o : Oper} {a : Act} {Q : Exit → Act → World → Prop} (hgd : o.guard = none) (s x : Operand)
  (ho : o.op = .call { callee := .builtin .append, args := #[s, x], argTypes := #[TS, TS] }) (B : Nat) (v : Value) (L M : List α) (p : Option Addr) (c n : Nat) (hM : M.length = n) (hown : OwnR S w T B v L) (hsrc : Recs S w p M) (hs : a.eval s = v)
  (hx : a.eval x = .slice p n c) (hB : B ≤ w.heap.size) (hn : L.length + n < 1073741824) (hby : bytes ≤ 65536)
  (h : ∀ v' w', OwnR S w' T B v' (L ++ M) → Appends w w' B w.heap.size v v' → wpList P ops Q rest (a.put o.dst v') w') : wpList P ops Q (o :: rest) a w := by
 cases p with
 | none =>
   subst hM; obtain ⟨i0, z, e1, e2, e3, e4, e5⟩ := he.ex; have hM : M = [] := by
    rcases hsrc.2 with h | ⟨b, off, h, _⟩
    ·exact h
    ·cases h
   subst hM; have hr := h v w (by rw [List.append_nil]; exact hown) ⟨brf _ _, Nat.le_refl _, fun _ _ _ => rfl, .inl rfl⟩; refine wpList_plain hgd fun K hK => ?_
   have hrun := run_append_none_cap (P := P) (w := w) B TS o.type T i0 S.k he.ts e1 v L.length c (S.flat L) hown; unfold Oper.wp
   simp [execOp, ho, resolve, invoke, builtin, hs, hx, hrun, Result.andThen]
   exact hK _ _ hr
 | some ad => exact OwnR.appendAll he hgd s x ho B v L M (some ad) c n hM hown hsrc (fun h => by cases h) hs hx hB hn hby h
theorem concat_any (gb : Nat) (p p2 : Option Addr) (R R2 : List RF) (c c2 : Nat) (w : World) (h1 : Recs SF w p R) (h2 : Recs SF w p2 R2) (l1 : R.length ≤ 1000) (l2 : R2.length ≤ 1000)
  (x0 : w.cell? ⟨gb, 0, none⟩ = some (.slice p R.length c)) (x1 : w.cell? ⟨gb, 1, none⟩ = some (.slice p2 R2.length c2)) :
  Calls Tryz.prog 83 #[.slice (some ⟨gb, 0, none⟩) 2 2] w fun e w' => ∃ v, e = .returned v ∧ OwnR SF w' 47 w.heap.size v (R ++ R2) ∧ Below w.heap.size w w' := by
 have H1 := mh h1; have H2 := mh h2; have hgb : gb < w.heap.size := World.block_lt_of_cell? w ⟨gb, 0, none⟩ x0; obtain ⟨n1, en1⟩ : ∃ n, R.length = n := ⟨_, rfl⟩; obtain ⟨n2, en2⟩ : ∃ n, R2.length = n := ⟨_, rfl⟩; rw [en1] at x0 l1; rw [en2] at x1 l2; have HN1 := mh en1; have HN2 := mh en2; have GR := mh (growF_any (n1 + n2) (by omega) w); rw [Int.natCast_add] at GR; have hn1 : (0 : Int) ≤ (n1 : Int) := inn _; have hn2 : (0 : Int) ≤ (n2 : Int) := inn _; have h1i : (n1 : Int) ≤ 1000 := by omega
 have h2i : (n2 : Int) ≤ 1000 := by omega
 have X0 := mh x0; have X1 := mh x1; clear h1 h2 en1 en2
 go_enter Tryz.func83, Tryz.ntmps83
 go_wp2
 go_loopw [3, 11] (fun sv iv W => w = W ∧ ((iv = I O 0 ∧ sv = I O 0) ∨ (iv = I O 1 ∧ sv = I O n1) ∨ (iv = I O 2 ∧ sv = I O ((n1 : Int) + (n2 : Int))))) (fun _ iv _ => 2 - (intOf iv).toNat)
 case atStart => exact ⟨rfl, .inl ⟨rfl, rfl⟩⟩
 case round =>
  obtain ⟨ew, hh⟩ := hrel; subst ew
  rcases hh with ⟨rfl, rfl⟩ | ⟨rfl, rfl⟩ | ⟨rfl, rfl⟩
  ·have hd : decide ((n1 : Int) < 0) = false := dqf (by omega)
   go_wp2
   go_roundw
   case rel => exact ⟨by first | rfl | trivial, .inr (.inl ⟨by first | rfl | trivial | go_num, by first | rfl | trivial | go_num⟩)⟩
   case measure => simp [intOf]
  ·have hd : decide ((n1 : Int) + (n2 : Int) < 0) = false := dqf (by omega)
   go_wp2
   go_roundw
   case rel => exact ⟨by first | rfl | trivial, .inr (.inr ⟨by first | rfl | trivial | go_num, by first | rfl | trivial | go_num⟩)⟩
   case measure => simp [intOf]
  ·go_wp2_with fail
   (with_reducible refine cmo GR.out ?_); rintro e w5 ⟨v5, rfl, hO5, hb5⟩; have HO5 := mh hO5; have HB5 := mh hb5; clear hO5 hb5
   go_wp2_with fail
   go_loopw [6, 27] (fun sv iv W => Below w.heap.size w W ∧ ((iv = I O 0 ∧ OwnR SF W 47 w.heap.size sv []) ∨ (iv = I O 1 ∧ OwnR SF W 47 w.heap.size sv R) ∨ (iv = I O 2 ∧ OwnR SF W 47 w.heap.size sv (R ++ R2)))) (fun _ iv _ => 2 - (intOf iv).toNat)
   case atStart => exact ⟨HB5.out, .inl ⟨rfl, HO5.out⟩⟩
   case round =>
    obtain ⟨wo, rfl⟩ : ∃ wo : World, wo = wr := ⟨_, rfl⟩; obtain ⟨hb, hh⟩ := hrel; have HB := mh hb; have z0 := (hb.cell (p := ⟨gb, 0, none⟩) hgb).trans X0.out; have z1 := (hb.cell (p := ⟨gb, 1, none⟩) hgb).trans X1.out; have RA := mh (H1.out.below hb); have RB := mh (H2.out.below hb); clear hb
    rcases hh with ⟨rfl, hO⟩ | ⟨rfl, hO⟩ | ⟨rfl, hO⟩
    ·have HO := mh hO
     clear hO
     go_wp2_with (first | (at_builtin; (refine OwnR.appendAny el_farm rfl (.tmp 31) (.tmp 32) rfl w.heap.size _ [] R p c n1 HN1.out HO.out RA.out rfl rfl HB.out.size (by simp; omega) (by decide) ?_); intro v7 w7 hO7 hap7; have HO7 := mh hO7; have HB7 := mh (HB.out.trans hap7.below); clear hO7 hap7) | fail)
     go_roundw
     case rel => exact ⟨HB7.out, .inr (.inl ⟨by first | rfl | trivial | go_num, HO7.out⟩)⟩
     case measure => simp [intOf]
    ·have HO := mh hO
     clear hO
     go_wp2_with (first | (at_builtin; (refine OwnR.appendAny el_farm rfl (.tmp 31) (.tmp 32) rfl w.heap.size _ R R2 p2 c2 n2 HN2.out HO.out RB.out rfl rfl HB.out.size (by have := HN1.out; omega) (by decide) ?_); intro v7 w7 hO7 hap7; have HO7 := mh hO7; have HB7 := mh (HB.out.trans hap7.below); clear hO7 hap7) | fail)
     go_roundw
     case rel => exact ⟨HB7.out, .inr (.inr ⟨by first | rfl | trivial | go_num, HO7.out⟩)⟩
     case measure => simp [intOf]
    ·have HO := mh hO
     clear hO
     go_wp2_with fail
     go_ret
     exact ⟨_, rfl, HO.out, HB.out⟩
theorem SepR.base {ρ β : Type} {S : Shape ρ} {V : (Nat → Prop) → World → ρ → β → Prop} {T : TypeId} {B B' : Nat} {Q : Nat → Prop} {W : World} {v : Value} {R : List ρ} {K : List β} (h : SepR S V T B Q W v R K) (hB : B' ≤ B) : SepR S V T B' Q W v R K :=
 ⟨h.hl, h.own.mono hB, h.oq, h.rows⟩
def CyG (F : List FarmF) (w : World) (e : Ending) (w' : World) : Prop :=
 ∃ v R, e = .returned v ∧ SepR SF (FVs LVw) 47 w.heap.size (NewQ w.heap.size) w' v R F ∧ Below w.heap.size w w'
structure CpI (wo W : World) (gg : Nat) (fa day : Int) (v : Value) (L : List RL) (K : List LineF) : Prop where
 fb : Blk W gg #[I O fa, I O day, v] 47
 rw : SepR SL LVw 68 (gg + 1) (NewQ (gg + 1)) W v L K
 bo : Below wo.heap.size wo W
 le : wo.heap.size ≤ gg
theorem CpI.push {wo W w6 w7 : World} {gg H : Nat} {fa day : Int} {v v7 : Value} {L : List RL} {K : List LineF} {r : RL} {x : LineF} (h : CpI wo W gg fa day v L K) (hb : Below W.heap.size W w6) (hv : LVw (NewQ W.heap.size) w6 r x)
  (hO : OwnR SL w7 68 (gg + 1) v7 (L ++ [r])) (hap : Appends w6 w7 (gg + 1) H v v7) (hH : w6.heap.size ≤ H) : CpI wo (w7.setCell ⟨gg, 2, none⟩ v7) gg fa day v7 (L ++ [r]) (K ++ [x]) := by
 have hgl := h.fb.lt; have p := h.rw.push LVw.chgs (Q' := NewQ (gg + 1)) hb.size (fun b q hl => ⟨hb.block b hl, q⟩) hH (fun b q => by unfold NewQ; omega) hv hO hap; have b67 : Below wo.heap.size w6 w7 := hap.below.mono (by have := h.le; omega); refine ⟨?_, p.change LVw.chgs (by rw [setCell_sz]; exact Nat.le_refl _) fun b q _ => ⟨setCell_far _ (by unfold NewQ at q; omega) _ _, q⟩, ((h.bo.trans (hb.mono h.bo.size)).trans b67).setCell h.le _, h.le⟩; exact (show Blk w7 gg #[I O fa, I O day, v] 47 from (hap.below.block gg (Nat.lt_succ_self gg)).trans (h.fb.below hb)).set 2 v7
theorem LV.lvw {W : World} {B : Nat} {dl ls se ki ar bo : Int} {p : Option Addr} {n c : Nat} {x : LineF} {r : RL} {Q : Nat → Prop} {W0 : World} (hv : LV Q W0 ⟨dl, ls, r.dp, r.dn, r.dc, se, ki, ar, bo⟩ x) (hO : OwnR SI W 3 B (.slice p n c) x.due) : LVw (NewQ B) W ⟨dl, ls, p, n, c, se, ki, ar, bo⟩ x := by
 obtain ⟨p', c', e, h1, h2, h3, -, h5⟩ := hO.cut (n := x.due.length) rfl
 cases e
 exact ⟨⟨hv.decl, hv.sch, h5.ints, rfl, h3, fun e => (h1 e).1, fun a e => .inr (h2 a e).2.2.1, hv.season, hv.kind, hv.area, hv.border⟩, hO.mono (Nat.zero_le _), fun g e => (hO.lt e).1⟩
theorem copy2_any {Q : Nat → Prop} (p : Option Addr) (F : List FarmF) (c : Nat) (w : World) (h : FsAt Q w p F) (lF : F.length ≤ 1000) (lL : ∀ f ∈ F, f.lines.length ≤ 1000 ∧ ∀ x ∈ f.lines, x.due.length ≤ 1000) :
  Calls Tryz.prog 36 #[.slice p F.length c] w (CyG F w) := by
 have H := mh h; have LL := mh lL; have B0 := mh (brf w.heap.size w); have hlen := h.len; clear h lL; unfold CyG
 go_enter Tryz.func36, Tryz.ntmps36
 go_wp2_with fail
 go_loopw [3, 11] (fun v i W => ∃ (k : Nat) (R : List RF), k ≤ F.length ∧ i = I O k ∧ SepR SF (FVs LVw) 47 w.heap.size (NewQ w.heap.size) W v R (F.take k) ∧ Below w.heap.size w W) (fun _ i _ => F.length - (intOf i).toNat)
 case atStart => exact ⟨0, [], Nat.zero_le _, rfl, SepR.nil _ _ _ _ _ _, B0.out⟩
 case round =>
  obtain ⟨wo, rfl⟩ : ∃ wo : World, wo = wr := ⟨_, rfl⟩; obtain ⟨k, R, hk, rfl, hR, hb⟩ := hrel; have HR := mh hR; have HB := mh hb; have hk0 : (0 : Int) ≤ (k : Int) := inn _
  by_cases hlt : k < F.length
  ·have hk1 : (k : Int) < (F.length : Int) := by omega
   have ST := mh (tsg hlt); have LK := mh (LL.out F[k] (List.getElem_mem hlt)); obtain ⟨b, off, ⟨xf, xd, lp, ln, lc⟩, rfl, hbl, ⟨c0, c1, c2⟩, hv⟩ := (H.out.below hb).at hlt; have e1 := hv.farm; have e2 := hv.day; have e3 := hv.ln; simp only at c0 c1 c2 e1 e2 e3; subst e1 e2 e3; have FL := mh hv.lines; have FE := mh (Eq.refl F[k]); obtain ⟨f, ef⟩ : ∃ f, F[k] = f := ⟨_, rfl⟩; rw [ef] at c0 c1 c2 ST LK FL; have hll := LK.out.1; obtain ⟨fa, day, K⟩ := f; simp only at c0 c1 c2 LK FL hll; have hal := (brf wo.heap.size wo).alloc mle (.cells #[I O fa, I O day, .slice lp K.length lc] 47); have hs1 : (wo.alloc (.cells #[I O fa, I O day, .slice lp K.length lc] 47)).heap.size = wo.heap.size + 1 := by rw [World.size_alloc]
   have hal2 := (brf (wo.alloc (.cells #[I O fa, I O day, .slice lp K.length lc] 47)).heap.size (wo.alloc (.cells #[I O fa, I O day, .slice lp K.length lc] 47))).alloc mle (.cells #[I O fa, I O day, .slice none 0 0] 47); obtain ⟨gf, egf⟩ : ∃ g, wo.heap.size = g := ⟨_, rfl⟩; have EGF := mh egf
   have I0 := mh (show CpI wo ((wo.alloc (.cells #[I O fa, I O day, .slice lp K.length lc] 47)).alloc (.cells #[I O fa, I O day, .slice none 0 0] 47)) (gf + 1) fa day (.slice none 0 0) [] [] from
    ⟨by rw [← egf, ← hs1]; exact Blk.new _ _ _, SepR.nil _ _ _ _ _ _, hal.trans (hal2.mono hal.size), by omega⟩)
   clear hv hb hR hal hal2 hs1 ef
   go_wp2_with fail
   clear egf c0 c1 c2; generalize (wo.alloc (.cells #[I O fa, I O day, .slice lp K.length lc] 47)).alloc (.cells #[I O fa, I O day, .slice none 0 0] 47) = w1 at *
   go_loopw [23] (fun iv W => ∃ (m : Nat) (v : Value) (L : List RL), m ≤ K.length ∧ iv = I O m ∧ CpI wo W (gf + 1) fa day v L (K.take m)) (fun iv _ => K.length - (intOf iv).toNat)
   case atStart => exact ⟨0, _, [], Nat.zero_le _, rfl, I0.out⟩
   case round =>
    clear I0; obtain ⟨wi, rfl⟩ : ∃ wi : World, wi = wr := ⟨_, rfl⟩; obtain ⟨m, v, L, hm, rfl, hI⟩ := hrel; have HI := mh hI; have hm0 : (0 : Int) ≤ (m : Int) := inn _; obtain ⟨p2, cc2, rfl, -, -, -, -, -⟩ := hI.rw.own.cut (n := m) (by rw [hI.rw.hl, List.length_take]; omega); have g0 := hI.fb.cell 0; have g1 := hI.fb.cell 1; have g2 := hI.fb.cell 2
    by_cases hlt2 : m < K.length
    ·have hm1 : (m : Int) < (K.length : Int) := by omega
     have ST2 := mh (tsg hlt2); have LD := mh (LK.out.2 K[m] (List.getElem_mem hlt2)); obtain ⟨bl, ol, ⟨dl, ls, dp, dn, dc, se, ki, ar, bo⟩, rfl, hbl2, ⟨d0, d1, d2, d3, d4, d5, d6⟩, hv2⟩ := (FL.out.below hI.bo).at hlt2; have e4 := hv2.dn; simp only at d0 d1 d2 d3 d4 d5 d6 e4; subst e4; have HV := mh hv2; have hba := (brf wi.heap.size wi).alloc mle (.cells #[I O dl, I O ls, .slice dp K[m].due.length dc, I O se, I O ki, I O ar, I O bo] 68); have HBA := mh hba; obtain ⟨gx, egx⟩ : ∃ g, wi.heap.size = g := ⟨_, rfl⟩; have EGX := mh egx; have XB := mh (egx ▸ Blk.new wi #[I O dl, I O ls, .slice dp K[m].due.length dc, I O se, I O ki, I O ar, I O bo] 68); have DR := mh ((hv2.due.recs).below hba); have GBA := mh (hI.fb.below hba); obtain ⟨y, ey⟩ : ∃ y, K[m] = y := ⟨_, rfl⟩; rw [ey] at d2 HBA XB HV DR ST2 LD GBA; have hyl := LD.out; have hlm := HI.out.rw.hl; rw [List.length_take] at hlm; have HLM := mh hlm; clear hv2 hba ey hI hlm
     go_upto_region 10 with (first | (at_builtin; (refine OwnR.appendAny el_int rfl (.const (.slice none 0 0)) (.tmp 28) rfl (gx + 1) _ [] y.due dp dc y.due.length rfl (OwnR.nil _ _ _) DR.out rfl rfl (by rw [World.size_alloc]; have := EGX.out; omega) (by simp; omega) (by decide) ?_); intro v5 w5 hO5 hap5; rw [List.nil_append] at hO5; obtain ⟨p5, c5, rfl, -, -, -, -, -⟩ := hO5.cut (n := y.due.length) rfl; have O5 := mh hO5; have X5 := mh (show Blk w5 gx #[I O dl, I O ls, .slice dp y.due.length dc, I O se, I O ki, I O ar, I O bo] 68 from (hap5.below.block gx (Nat.lt_succ_self gx)).trans XB.out); have B5 := mh (show Below gx wi w5 from (HBA.out.mono (by have := EGX.out; omega)).trans (hap5.below.mono (Nat.le_succ gx))); have G5 := mh (show Blk w5 (gf + 1) #[I O fa, I O day, .slice p2 m cc2] 47 from (hap5.below.block (gf + 1) (by have := HI.out.fb.lt; have := EGX.out; omega)).trans GBA.out); have f2 := X5.out.fr 2; have q2 := X5.out.cell 2; clear hO5 hap5) | fail)
     clear f2 q2 g0 g1 g2 d0 d1 d2 d3 d4 d5 d6 egx; have X6 := mh (show Blk (w5.setCell ⟨gx, 2, none⟩ (.slice p5 y.due.length c5)) gx #[I O dl, I O ls, .slice p5 y.due.length c5, I O se, I O ki, I O ar, I O bo] 68 from X5.out.set 2 _); have G6 := mh (show Blk (w5.setCell ⟨gx, 2, none⟩ (.slice p5 y.due.length c5)) (gf + 1) #[I O fa, I O day, .slice p2 m cc2] 47 from G5.out.far (by have := HI.out.fb.lt; have := EGX.out; omega) _); have O6 := mh (show OwnR SI (w5.setCell ⟨gx, 2, none⟩ (.slice p5 y.due.length c5)) 3 (gx + 1) (.slice p5 y.due.length c5) y.due from O5.out.blocks fun g _ hB _ => setCell_far _ (by omega) _ _); have B6 := mh (show Below wi.heap.size wi (w5.setCell ⟨gx, 2, none⟩ (.slice p5 y.due.length c5)) from by rw [EGX.out]; exact B5.out.setCell mle _); have V6 := mh (show LVw (NewQ wi.heap.size) (w5.setCell ⟨gx, 2, none⟩ (.slice p5 y.due.length c5)) ⟨dl, ls, p5, y.due.length, c5, se, ki, ar, bo⟩ y from LV.lvw (r := ⟨dl, ls, dp, y.due.length, dc, se, ki, ar, bo⟩) HV.out (O6.out.mono (by have := EGX.out; omega))); generalize w5.setCell ⟨gx, 2, none⟩ (.slice p5 y.due.length c5) = w6 at *; have x0 := X6.out.cell 0; have x1 := X6.out.cell 1; have x2 := X6.out.cell 2; have x3 := X6.out.cell 3; have x4 := X6.out.cell 4; have x5 := X6.out.cell 5; have x6 := X6.out.cell 6; have g2 := G6.out.cell 2; have OW := mh (HI.out.rw.own.below B6.out)
     go_wp2_with (first | (at_builtin; (refine OwnR.append el_line rfl (.tmp 32) (.tmp 34) rfl (gf + 1 + 1) _ L ⟨dl, ls, p5, y.due.length, c5, se, ki, ar, bo⟩ #[I O dl, I O ls, .slice p5 y.due.length c5, I O se, I O ki, I O ar, I O bo] rfl OW.out rfl (by simp [Act.eval]) (show gf + 1 < w6.heap.size from G6.out.lt) (by have := HLM.out; omega) (by decide) ?_); intro v7 w7 hO7 hap7; obtain ⟨p7, c7, rfl, -, -, -, -, -⟩ := hO7.cut (n := m + 1) (by rw [lap, HLM.out]; simp; omega); have HP := mh (HI.out.push B6.out V6.out hO7 hap7 (Nat.le_succ _)); have G7 := mh (show Blk w7 (gf + 1) #[I O fa, I O day, .slice p2 m cc2] 47 from (hap7.below.block (gf + 1) (Nat.lt_succ_self _)).trans G6.out); have f2 := G7.out.fr 2; have q2 := G7.out.cell 2; clear hO7 hap7) | fail)
     go_roundw
     case rel => exact ⟨m + 1, _, _, by omega, by go_num, by rw [ST2.out]; exact HP.out⟩
     case measure => simp [intOf]; omega
    ·obtain rfl : m = K.length := by omega
     have hI' := hI; rw [List.take_length] at hI'; have OWF := mh (HR.out.own.below hI.bo); have BI := mh (HB.out.trans (hI.bo.mono HB.out.size)); have FI := mh (show FVs LVw (NewQ wo.heap.size) wi ⟨fa, day, p2, K.length, cc2⟩ ⟨fa, day, K⟩ from ⟨rfl, rfl, L, (hI'.rw.base (Nat.zero_le _)).change LVw.chgs mle fun b q _ => ⟨rfl, by have := EGF.out; unfold NewQ at q ⊢; omega⟩⟩); have HRL := mh (show R.length ≤ 1000 by rw [HR.out.hl, List.length_take]; omega); clear hI hI'
     go_wp2_with (first | (at_builtin; (refine OwnR.append el_farm rfl (.tmp 38) (.tmp 40) rfl w.heap.size _ R ⟨fa, day, p2, K.length, cc2⟩ #[I O fa, I O day, .slice p2 K.length cc2] rfl OWF.out rfl (by simp [Act.eval]) BI.out.size (by have := HRL.out; omega) (by decide) ?_); intro v8 w8 hO8 hap8; have PU := mh (HR.out.push (FVs.chgs LVw.chgs) (Q' := NewQ w.heap.size) HI.out.bo.size (fun b q hl => ⟨HI.out.bo.block b hl, q⟩) (Nat.le_succ _) (fun b q => Nat.le_trans HB.out.size q) FI.out hO8 hap8); have B8 := mh (BI.out.trans hap8.below); clear hO8 hap8) | fail)
     go_roundw
     case rel => exact ⟨k + 1, _, by omega, by go_num, by rw [ST.out]; exact PU.out, B8.out⟩
     case measure => simp [intOf]; omega
  ·obtain rfl : k = F.length := by omega
   rw [List.take_length] at hR; have HR2 := mh hR; clear hR hb
   go_wp2_with fail
   go_ret
   exact ⟨_, R, rfl, HR2.out, HB.out⟩
theorem OwnR.short {α : Type} {S : Shape α} {w : World} {T : TypeId} {B n c m : Nat} {p : Option Addr} {L : List α} (h : OwnR S w T B (.slice p n c) L) (hm : m ≤ n) : OwnR S w T B (.slice p m c) (L.take m) := by
 rcases h.2 with ⟨hv, hn⟩ | ⟨g, cap, cur, hv, hB, hg, hle, hx, hs, ht⟩
 ·cases hv
  obtain rfl : m = 0 := by omega
  rw [List.take_zero]; exact OwnR.nil _ _ _
 ·cases hv
  have hl : (L.take m).length = m := by rw [List.length_take]; omega
  refine ⟨by rw [S.flat_len], .inr ⟨g, c, cur, by rw [hl], hB, hg, by rw [hl]; omega, hx, hs, ?_⟩⟩
  rw [hl, S.flat_take, ← ht, List.take_take, Nat.min_eq_left (Nat.mul_le_mul_right _ hm)]
theorem SepR.short {ρ β : Type} {S : Shape ρ} {V : (Nat → Prop) → World → ρ → β → Prop} {T : TypeId} {B n c m : Nat} {p : Option Addr} {Q : Nat → Prop} {W : World} {R : List ρ} {K : List β} (h : SepR S V T B Q W (.slice p n c) R K) (hm : m ≤ n) : SepR S V T B Q W (.slice p m c) (R.take m) (K.take m) := by
 obtain ⟨h1, h2, h3, φ, h4, h5, h6⟩ := h; have ho : (Value.slice p m c).ownBlock = (Value.slice p n c).ownBlock := by cases p <;> rfl
 exact ⟨by rw [List.length_take, List.length_take, h1], h2.short hm, (fun g hg => h3 g (ho ▸ hg)), φ, (fun k a b => by rw [List.getElem_take, List.getElem_take]; exact h4 k _ _), (fun k b q => ⟨(h5 k b q).1, by rw [ho]; exact (h5 k b q).2⟩), h6⟩
section
variable {Q : Nat → Prop} {w w5 w' W : World} {T : TypeId} {B n c g : Nat} {p : Option Addr} {R : List RF} {F : List FarmF}
theorem SepR.setDay {V : (Nat → Prop) → World → RL → LineF → Prop} (hV : Chgs V) (h : SepR SF (FVs V) T B Q W (.slice (some ⟨g, 0, none⟩) n c) R F) {k : Nat} (hk : k < R.length) (hk' : k < F.length) (day : Int) :
  SepR SF (FVs V) T B Q (W.setCell ⟨g, k * 3 + 1, none⟩ (I O day)) (.slice (some ⟨g, 0, none⟩) n c) (R.set k { R[k] with day := day }) (F.set k { F[k] with day := day }) := by
 obtain ⟨φ, h1, h2, h3⟩ := h.upd (FVs.chgs hV) hk hk'; obtain ⟨g', e, -, -, -, -, -, hst⟩ := h.own.at hk
 cases e
 have hsz : (W.setCell ⟨g, k * 3 + 1, none⟩ (I O day)).heap.size = W.heap.size := setCell_sz _ _ _; have far : ∀ b, b ≠ g → (W.setCell ⟨g, k * 3 + 1, none⟩ (I O day)).heap[b]? = W.heap[b]? := fun b hb => setCell_far _ hb _ _
 refine h3 _ { R[k] with day := day } { F[k] with day := day } φ Q (by rw [hsz]; exact Nat.le_refl _) (hst 1 _ _ (by show 1 < 3; omega) rfl) ?_ (fun b q => ⟨.inl q, (h2 b q).1⟩) fun b q _ => ⟨fun _ hn => far b (fun e => hn (by rw [e]; rfl)), q⟩
 exact ⟨h1.farm, rfl, h1.lines.imp fun L hL => hL.change hV (by rw [hsz]; exact Nat.le_refl _) fun b q _ => ⟨far b fun e => (h2 b q).2 (by rw [e]; rfl), q⟩⟩
theorem SepR.setShort {V : (Nat → Prop) → World → RL → LineF → Prop} (hV : Chgs V) (h : SepR SF (FVs V) T B Q W (.slice (some ⟨g, 0, none⟩) n c) R F) {k : Nat} (hk : k < R.length) (hk' : k < F.length) {m : Nat} (hm : m ≤ R[k].ln) :
  SepR SF (FVs V) T B Q (W.setCell ⟨g, k * 3 + 2, none⟩ (.slice R[k].lp m R[k].lc)) (.slice (some ⟨g, 0, none⟩) n c) (R.set k { R[k] with ln := m }) (F.set k { F[k] with lines := F[k].lines.take m }) := by
 obtain ⟨φ, h1, h2, h3⟩ := h.upd (FVs.chgs hV) hk hk'; obtain ⟨g', e, -, -, -, -, -, hst⟩ := h.own.at hk
 cases e
 have hsz : (W.setCell ⟨g, k * 3 + 2, none⟩ (.slice R[k].lp m R[k].lc)).heap.size = W.heap.size := setCell_sz _ _ _; have far : ∀ b, b ≠ g → (W.setCell ⟨g, k * 3 + 2, none⟩ (.slice R[k].lp m R[k].lc)).heap[b]? = W.heap[b]? := fun b hb => setCell_far _ hb _ _
 refine h3 _ { R[k] with ln := m } { F[k] with lines := F[k].lines.take m } φ Q (by rw [hsz]; exact Nat.le_refl _) (hst 2 _ _ (by show 2 < 3; omega) rfl) ?_ (fun b q => ⟨.inl q, (h2 b q).1⟩) fun b q _ => ⟨fun _ hn => far b (fun e => hn (by rw [e]; rfl)), q⟩
 obtain ⟨L, hL⟩ := h1.lines; exact ⟨h1.farm, h1.day, L.take m, (hL.change hV (by rw [hsz]; exact Nat.le_refl _) fun b q _ => ⟨far b fun e => (h2 b q).2 (by rw [e]; rfl), q⟩).short hm⟩
end
def put7 (w : World) (g o : Nat) (r : RL) : World := ((((((w.setCell ⟨g, o, none⟩ (I O r.decl)).setCell ⟨g, o + 1, none⟩ (I O r.sch)).setCell ⟨g, o + 2, none⟩ (.slice r.dp r.dn r.dc)).setCell ⟨g, o + 3, none⟩ (I O r.season)).setCell ⟨g, o + 4, none⟩ (I O r.kind)).setCell ⟨g, o + 5, none⟩ (I O r.area)).setCell ⟨g, o + 6, none⟩ (I O r.border)
theorem put7_sz (w : World) (g o : Nat) (r : RL) : (put7 w g o r).heap.size = w.heap.size := by unfold put7; simp only [setCell_sz]
theorem put7_far (w : World) {g b : Nat} (h : b ≠ g) (o : Nat) (r : RL) : (put7 w g o r).heap[b]? = w.heap[b]? := by
 unfold put7; rw [setCell_far _ h, setCell_far _ h, setCell_far _ h, setCell_far _ h, setCell_far _ h, setCell_far _ h, setCell_far _ h]
theorem put7_low {w0 w : World} {B g : Nat} (h : Below B w0 w) (hg : B ≤ g) (o : Nat) (r : RL) : Below B w0 (put7 w g o r) := ((((((h.setCell hg _).setCell hg _).setCell hg _).setCell hg _).setCell hg _).setCell hg _).setCell hg _
theorem OwnR.put1 {w : World} {T : TypeId} {B n c g j : Nat} {L : List RL} {a : RL} (h : OwnR SL w T B (.slice (some ⟨g, 0, none⟩) n c) (L.set j a)) (hj : j < L.length) (i : Nat) (hi : i < 7) (u : Value) (a' : RL) (ha : lCells a' = (lCells a).set i u) :
  OwnR SL (w.setCell ⟨g, j * 7 + i, none⟩ u) T B (.slice (some ⟨g, 0, none⟩) n c) (L.set j a') := by
 have hj' : j < (L.set j a).length := by rw [List.length_set]; exact hj
 obtain ⟨g', e, -, -, -, -, -, hst⟩ := h.at hj'
 cases e
 have := hst i u a' hi (by show lCells a' = _; rw [ha]; show _ = (lCells (L.set j a)[j]).set i u; rw [List.getElem_set_self])
 rwa [List.set_set] at this
theorem OwnR.put7 {w : World} {T : TypeId} {B n c g j : Nat} {L : List RL} (h : OwnR SL w T B (.slice (some ⟨g, 0, none⟩) n c) L) (hj : j < L.length) (r : RL) : OwnR SL (put7 w g (j * 7) r) T B (.slice (some ⟨g, 0, none⟩) n c) (L.set j r) := by
 have h0 : OwnR SL w T B (.slice (some ⟨g, 0, none⟩) n c) (L.set j L[j]) := by rw [List.set_getElem_self]; exact h
 obtain ⟨a0, a1, a2, a3, a4, a5, a6, a7, a8⟩ := r; generalize L[j] = b at h0; obtain ⟨b0, b1, b2, b3, b4, b5, b6, b7, b8⟩ := b; have h1 := h0.put1 hj 0 (by omega) (I O a0) ⟨a0, b1, b2, b3, b4, b5, b6, b7, b8⟩ rfl; have h2 := h1.put1 hj 1 (by omega) (I O a1) ⟨a0, a1, b2, b3, b4, b5, b6, b7, b8⟩ rfl; have h3 := h2.put1 hj 2 (by omega) (.slice a2 a3 a4) ⟨a0, a1, a2, a3, a4, b5, b6, b7, b8⟩ rfl; have h4 := h3.put1 hj 3 (by omega) (I O a5) ⟨a0, a1, a2, a3, a4, a5, b6, b7, b8⟩ rfl; have h5 := h4.put1 hj 4 (by omega) (I O a6) ⟨a0, a1, a2, a3, a4, a5, a6, b7, b8⟩ rfl; have h6 := h5.put1 hj 5 (by omega) (I O a7) ⟨a0, a1, a2, a3, a4, a5, a6, a7, b8⟩ rfl; exact h6.put1 hj 6 (by omega) (I O a8) ⟨a0, a1, a2, a3, a4, a5, a6, a7, a8⟩ rfl
theorem SepR.setLine {Q : Nat → Prop} {W w5 : World} {T : TypeId} {B gl : Nat} {v : Value} {R : List RF} {F : List FarmF} (h : SepR SF (FVs LV) T B Q W v R F) {k : Nat} (hk : k < R.length) (hk' : k < F.length)
  (hs : W.heap.size ≤ w5.heap.size) (hb : ∀ b, Q b → b < W.heap.size → w5.heap[b]? = W.heap[b]?) (hQ : ∀ b, W.heap.size ≤ b → Q b)
  (hr : R[k].lp = some ⟨gl, 0, none⟩) {j : Nat} (hj : j < F[k].lines.length) (r : RL) (x : LineF) (hv : LV (NewQ W.heap.size) w5 r x) :
  SepR SF (FVs LV) T B Q (put7 w5 gl (j * 7) r) v R (F.set k { F[k] with lines := F[k].lines.set j x }) := by
 obtain ⟨φ, h1, h2, h3⟩ := h.upd (FVs.chgs LV.chgs) hk hk'; obtain ⟨L, hL⟩ := h1.lines; have hjL : j < L.length := by rw [hL.hl]; exact hj
 rw [hr] at hL; have gφ : φ gl := hL.oq gl rfl; have glt : gl < W.heap.size := (hL.own.lt rfl).2; have keep : ∀ b, Q b → b < W.heap.size → b ≠ gl → (put7 w5 gl (j * 7) r).heap[b]? = W.heap[b]? := fun b q hl hn => (put7_far _ hn _ _).trans (hb b q hl)
 have hsz : W.heap.size ≤ (put7 w5 gl (j * 7) r).heap.size := by rw [put7_sz]; exact hs
 obtain ⟨ψ, g1, g2, g3⟩ := hL.upd LV.chgs hjL hj; have own5 : OwnR SL w5 68 0 (.slice (some ⟨gl, 0, none⟩) R[k].ln R[k].lc) L := hL.own.blocks fun g hg _ hl => hb g (h2 g (hL.oq g hg)).1 hl
 have hv' : LV (NewQ W.heap.size) (put7 w5 gl (j * 7) r) r x := hv.change (by rw [put7_sz]; exact Nat.le_refl _) fun b q _ => ⟨put7_far _ (by unfold NewQ at q; omega) _ _, q⟩
 have inner := g3 _ r x (NewQ W.heap.size) (fun b => φ b ∨ W.heap.size ≤ b) hsz (own5.put7 hjL r) hv' (fun b q => ⟨.inr q, .inr q⟩) fun b q hl => ⟨fun _ hn => keep b (h2 b q).1 hl fun e => hn (by rw [e]; rfl), .inl q⟩
 have outer := h3 (put7 w5 gl (j * 7) r) R[k] { F[k] with lines := F[k].lines.set j x } (fun b => φ b ∨ W.heap.size ≤ b) Q hsz
  (by rw [List.set_getElem_self]; exact h.own.blocks fun g hg _ hl => keep g (h.oq g hg) hl fun e => (h2 g (e ▸ gφ)).2 hg)
  ⟨h1.farm, h1.day, L.set j r, by rw [hr]; exact inner⟩ (fun b q => ⟨q, q.elim (fun q => (h2 b q).1) (hQ b)⟩) fun b q hl => ⟨fun hn _ => keep b q hl fun e => hn (e ▸ gφ), q⟩
 rwa [List.set_getElem_self] at outer
structure CoI (w W : World) (t : Nat) (l : List Int) (q gy : Nat) (ya : Array Value) (v : Value) (R : List RF) (G : List FarmF) : Prop where
 tp : TpB w W t l q
 yb : Blk W gy ya 29
 fs : SepR SF (FVs LV) 47 (gy + 1) (NewQ (gy + 1)) W v R G
 ord : w.heap.size ≤ gy
section
variable {w W W' : World} {t q q' gy : Nat} {l : List Int} {ya : Array Value} {v v' : Value} {R R' : List RF} {G G' : List FarmF}
theorem CoI.tg (h : CoI w W t l q gy ya v R G) : t < gy := nll h.tp.lt h.ord
theorem CoI.next (h : CoI w W t l q gy ya v R G) (ht : TapeAt W' t l q') (hb : But t W W') : CoI w W' t l q' gy ya v R G :=
 ⟨h.tp.next ht hb, h.yb.but hb (by have := h.tg; omega), h.fs.change (FVs.chgs LV.chgs) hb.size fun b k hl => ⟨hb.block b hl (by have := h.tg; unfold NewQ at k; omega), k⟩, h.ord⟩
theorem CoI.upd (h : CoI w W t l q gy ya v R G) (low : Below (gy + 1) W W') (fs : SepR SF (FVs LV) 47 (gy + 1) (NewQ (gy + 1)) W' v' R' G') : CoI w W' t l q gy ya v' R' G' :=
 ⟨⟨h.tp.tape.belowB low (by have := h.tg; omega), h.tp.but.stpB low (by have := h.ord; omega), h.tp.lt⟩, (low.block gy (Nat.lt_succ_self gy)).trans h.yb, fs, h.ord⟩
end
theorem FmOk.setDay {Y : YLaw} {f : FarmF} (h : FmOk Y f) {day : Int} (d0 : 0 ≤ day) (d1 : day < 60) : FmOk Y { f with day := day } := LsOk.farm (K := f.lines) (fa := f.farm) ⟨h.len, h.ok.line, h.decl⟩ h.ok.f0 h.ok.f1 d0 d1
theorem FmOk.short {Y : YLaw} {f : FarmF} (h : FmOk Y f) (m : Nat) : FmOk Y { f with lines := f.lines.take m } := LsOk.farm (K := f.lines.take m) (fa := f.farm) ⟨by rw [List.length_take]; have := h.len; omega, fun x hx => h.ok.line x (List.mem_of_mem_take hx), fun x hx => h.decl x (List.mem_of_mem_take hx)⟩ h.ok.f0 h.ok.f1 h.ok.d0 h.day
theorem FmOk.setLine {Y : YLaw} {f : FarmF} (h : FmOk Y f) {j : Nat} {x : LineF} (hx : LineOk Y x) (hd : x.decl < 120) : FmOk Y { f with lines := f.lines.set j x } := LsOk.farm (K := f.lines.set j x) (fa := f.farm) ⟨by rw [List.length_set]; exact h.len, fun y hy => (List.mem_or_eq_of_mem_set hy).elim (h.ok.line y) fun e => by rw [e]; exact hx, fun y hy => (List.mem_or_eq_of_mem_set hy).elim (h.decl y) fun e => by rw [e]; exact hd⟩ h.ok.f0 h.ok.f1 h.ok.d0 h.day
structure CoOk (Y : YLaw) (F G : List FarmF) : Prop where
 farms : G.map (·.farm) = F.map (·.farm)
 fm : ∀ g ∈ G, FmOk Y g
theorem CoOk.set {Y : YLaw} {F G : List FarmF} (h : CoOk Y F G) {k : Nat} (hk : k < G.length) {g : FarmF} (hg : FmOk Y g) (hf : g.farm = G[k].farm) : CoOk Y F (G.set k g) := by
 refine ⟨?_, fun y hy => (List.mem_or_eq_of_mem_set hy).elim (h.fm y) fun e => by rw [e]; exact hg⟩
 rw [← h.farms, List.map_set, hf]
 apply List.ext_getElem (by simp)
 intro i a b
 by_cases e : i = k
 ·subst e; simp
 ·rw [List.getElem_set_ne (Ne.symm e)]
theorem CoOk.len {Y : YLaw} {F G : List FarmF} (h : CoOk Y F G) : G.length = F.length := by
 have := congrArg List.length h.farms
 simpa using this
theorem CoOk.fok {Y : YLaw} {F G : List FarmF} (h : CoOk Y F G) (hF : FOk Y F) : FOk Y G := by
 refine ⟨hF.law, by rw [h.len]; exact hF.len, fun g hg => (h.fm g hg).ok, fun i hi => ?_⟩
 have e : ∀ (j : Nat) (a : j < G.length) (b : j < F.length), G[j].farm = F[j].farm := fun j a b => by
  have := congrArg (fun l => l[j]?) h.farms
  simpa [a, b] using this
 have hl := h.len; rw [e i (by omega) (by omega), e (i + 1) hi (by omega)]; exact hF.asc i (by omega)
end Go.Proofs.YtmlfcpglhipjgaaGreat
