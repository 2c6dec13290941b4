/-
  THE WALK over envelope.count.
-/
import Derived.Test.YtlmikbjnibiajaaPv
import Derived.Test.YtlmikbjnibiajaaHi
import Derived.Test.YtlmikbjnibiajaaHp
import Derived.Deep.AppendLies
import Derived.Deep.RegionHeld3
import Derived.Deep.RegionLaw
import Derived.Laws.ResultCell
namespace Go.Proofs.Ytlmikbjnibiajaa
open Go.RowKit

structure Cnt (w wr : World) (B : Nat) (e u : Int) (l : List Int) (v : Value) : Prop where
  below : Below B w wr
  own : Own wr 3 (B + 1 + 1) v (En.units u l)
  a0 : wr.cell? ⟨B, 0, none⟩ = some (.int .i64 0)
  a1 : wr.cell? ⟨B, 1, none⟩ = some (.slice none 0 0)
  a2 : wr.cell? ⟨B, 2, none⟩ = some (.int .i64 0)
  af0 : wr.frozen? ⟨B, 0, none⟩ = false
  af1 : wr.frozen? ⟨B, 1, none⟩ = false
  af2 : wr.frozen? ⟨B, 2, none⟩ = false
  b0 : wr.cell? ⟨B + 1, 0, none⟩ = some (.int .i64 (e / u))
  b1 : wr.cell? ⟨B + 1, 1, none⟩ = some v
  b2 : wr.cell? ⟨B + 1, 2, none⟩ = some (.int .i64 (En.usum u l))
  bf1 : wr.frozen? ⟨B + 1, 1, none⟩ = false
  bf2 : wr.frozen? ⟨B + 1, 2, none⟩ = false
  lt : B + 1 < wr.heap.size

theorem Own.ints_at {w : World} {T : TypeId} {B : Nat} {p : Option Addr} {n c : Nat} {xs : List Int} (h : Own w T B (.slice p n c) xs) : Ints w p xs := by
  obtain ⟨p', c', e, hI⟩ := h.ints
  cases e
  exact hI

theorem Cnt.step {w wr w1 : World} {B : Nat} {e u x : Int} {l : List Int} {v v1 : Value} {o : Obj} (h : Cnt w wr B e u l v) (hb : Below (B + 1 + 1) (((wr.setCell ⟨B + 1, 2, none⟩ (.int .i64 (En.usum u l + x / u))).alloc o).drew.drew) w1)
    (hown : Own w1 3 (B + 1 + 1) v1 (En.units u l ++ [x / u])) : Cnt w (w1.setCell ⟨B + 1, 1, none⟩ v1) B e u (l ++ [x]) v1 := by
  have lt := h.lt
  have k1 := h.b1
  have k2 := h.b2
  have cB : ∀ i, w1.cell? ⟨B, i, none⟩ = wr.cell? ⟨B, i, none⟩ := fun i => (hb.cell (p := ⟨B, i, none⟩) (by simp; omega)).trans (((Below.refl wr.heap.size _).alloc (by simp) o).cell (p := ⟨B, i, none⟩) (by simp; omega) |>.trans (by go_simp))
  have fB : ∀ i, w1.frozen? ⟨B, i, none⟩ = wr.frozen? ⟨B, i, none⟩ := fun i => (hb.frozen (p := ⟨B, i, none⟩) (by simp; omega)).trans (((Below.refl wr.heap.size _).alloc (by simp) o).frozen (p := ⟨B, i, none⟩) (by simp; omega) |>.trans (by go_simp))
  have c0 : w1.cell? ⟨B + 1, 0, none⟩ = wr.cell? ⟨B + 1, 0, none⟩ := (hb.cell (p := ⟨B + 1, 0, none⟩) (by simp)).trans (((Below.refl wr.heap.size _).alloc (by simp) o).cell (p := ⟨B + 1, 0, none⟩) (by simp; omega) |>.trans (by go_simp))
  have c1 : w1.cell? ⟨B + 1, 1, none⟩ = wr.cell? ⟨B + 1, 1, none⟩ := (hb.cell (p := ⟨B + 1, 1, none⟩) (by simp)).trans (((Below.refl wr.heap.size _).alloc (by simp) o).cell (p := ⟨B + 1, 1, none⟩) (by simp; omega) |>.trans (by go_simp))
  have c2 : w1.cell? ⟨B + 1, 2, none⟩ = some (.int .i64 (En.usum u l + x / u)) := (hb.cell (p := ⟨B + 1, 2, none⟩) (by simp)).trans (((Below.refl wr.heap.size _).alloc (by simp) o).cell (p := ⟨B + 1, 2, none⟩) (by simp; omega) |>.trans (by go_simp))
  have f1 : ∀ i, w1.frozen? ⟨B + 1, i, none⟩ = wr.frozen? ⟨B + 1, i, none⟩ := fun i => (hb.frozen (p := ⟨B + 1, i, none⟩) (by simp)).trans (((Below.refl wr.heap.size _).alloc (by simp) o).frozen (p := ⟨B + 1, i, none⟩) (by simp; omega) |>.trans (by go_simp))
  have hsz := hb.size
  simp only [World.size_drew, World.size_alloc, World.size_setCell] at hsz
  refine ⟨?_, ?_, ?_, ?_, ?_, ?_, ?_, ?_, ?_, ?_, ?_, ?_, ?_, ?_⟩
  · exact ((((h.below.setCell (p := ⟨B + 1, 2, none⟩) (by simp) _).alloc (by simp; omega) o).drew.drew).trans (hb.mono (by omega))).setCell (by simp) _
  · have := ownsRow_setCell_below hown (a := ⟨B + 1, 1, none⟩) (by simp) v1
    rw [En.units_snoc]
    exact this
  · first | (go_simp; done) | (go_simp; exact h.a0)
  · first | (go_simp; done) | (go_simp; exact h.a1)
  · first | (go_simp; done) | (go_simp; exact h.a2)
  · first | (go_simp; done) | (go_simp; exact h.af0)
  · first | (go_simp; done) | (go_simp; exact h.af1)
  · first | (go_simp; done) | (go_simp; exact h.af2)
  · first | (go_simp; done) | (go_simp; exact h.b0)
  · have e1 := c1.trans k1
    go_simp
  · rw [En.usum_snoc]
    first | (go_simp; done) | (go_simp; exact c2)
  · first | (go_simp; done) | (go_simp; exact h.bf1)
  · first | (go_simp; done) | (go_simp; exact h.bf2)
  · simp; omega

theorem Own.step {P : Program} {T TS : TypeId} {i0 : TypeInfo} (hi : P.info? T = some i0) (hz0 : i0.zero = some (.int .i64 0)) (hz1 : i0.size = 1) (hz2 : i0.bytes = 8) (ht : P.underlying TS = some (.slice T)) {w : World} {ops : Array Oper} {o : Oper} {a : Act} {K : Act → World → Prop} {Q : Exit → Act → World → Prop} {E : Prop} (hgd : o.guard = none) (s x : Operand)
    (ho : o.op = .call { callee := .builtin .append, args := #[s, x], argTypes := #[TS, TS] }) (B : Nat) (v : Value) (xs : List Int) (y : Int) (g : Nat) (hown : Own w T B v xs) (hs : a.eval s = v)
    (hx : a.eval x = .slice (some ⟨g, 0, none⟩) 1 1) (hc : w.cell? ⟨g, 0, none⟩ = some (.int .i64 y)) (hB : B ≤ w.heap.size) (hn : xs.length < 1099511627776)
    (h : ∀ v' w', Own w' T B v' (xs ++ [y]) → Below B w w' → K (a.put o.dst v') w') :
    if Region.wanted o (yielded ops a.tmps) = true then Oper.wp P o a w K Q else E := by
  refine step_append_lies _ hgd s x TS ho B T i0 (.int .i64 0) 1 8 ht hi hz0 hz1 hz2 rfl (by decide) v xs.length (xs.map (Value.int .i64)) hs hown ⟨g, 0, none⟩ 1 1 [.int .i64 y] hx rfl (fun j u hu => ?_) (by simp [Value.oneCell']) (by omega) (by unfold maxLen; omega) (by omega) hB _ rfl ?_
  · match j, hu with
    | 0, hu => simp at hu; subst hu; exact hc
  intro g cap w' h1 h2 _ _
  refine h _ w' ?_ ?_
  · unfold Own
    rw [List.length_append, List.map_append]
    exact h1
  · refine ((Below.refl B w).grown h2 hB fun k hk => ?_)
    exact (World.ownsRow.lt hown k hk).1

set_option maxRecDepth 100000 in
set_option maxHeartbeats 4000000 in
theorem count_good (e u : Int) (p : Option Addr) (l : List Int) (cap : Nat) (w : World) (h : Ints w p l) (hg : En.Good e u l) :
    Calls Try.prog 66 #[.int .i64 e, .int .i64 u, .slice p l.length cap] w fun en w' => ∃ q c, en = .returned (.tuple #[.agg #[.int .i64 (e / u), .slice q l.length c, .int .i64 (En.usum u l)], .int .i64 0]) ∧ Ints w' q (En.units u l) ∧ Below w.heap.size w w' := by
  have H := Lib.hid h
  have G := Lib.hid hg
  have e0 := hg.e0
  have e1 := hg.e1
  have u0 := hg.u0
  have u1 := hg.u1
  have hl := hg.len
  have q0 : 0 ≤ e / u := Int.ediv_nonneg e0 (by omega)
  have q1 : e / u ≤ 68719476736 := by have := Int.ediv_le_self u e0; omega
  have hu0 : ¬ u = 0 := by omega
  clear h hg
  go_enter Try.func66, Try.ntmps66
  go_wp2
  have hst : Cnt w ((w.alloc (Obj.cells #[.int .i64 0, .slice none 0 0, .int .i64 0] 87)).alloc (Obj.cells #[.int .i64 (e / u), .slice none 0 0, .int .i64 0] 87)) w.heap.size e u [] (.slice none 0 0) :=
    ⟨by go_grown, Own.nil _ _ _, by go_simp, by go_simp, by go_simp, by go_simp, by go_simp, by go_simp, by go_simp, by go_simp, (by show _ = some (Value.int .i64 0); go_simp), by go_simp, by go_simp, by simp⟩
  have HST := Lib.hid hst
  clear hst
  obtain ⟨i0, hi, hz0, hz1, hz2⟩ := info_parts info_int
  have HI := Lib.hid (And.intro hi (And.intro hz0 (And.intro hz1 hz2)))
  clear hi hz0 hz1 hz2
  go_loopw [39, 9] (fun i s wr => ∃ (k : Nat) (v : Value), k ≤ l.length ∧ i = .int .i64 k ∧ s = .int .i64 (Sh.sum (l.take k)) ∧ Cnt w wr w.heap.size e u (l.take k) v) (fun i _ _ => l.length - (intOf i).toNat)
  case atStart => exact ⟨0, _, Nat.zero_le _, rfl, by simp [Sh.sum], HST.out⟩
  case round =>
    clear HST
    obtain ⟨k, v, hk, rfl, rfl, hC⟩ := hrel
    have HC := Lib.hid hC
    have hs0 := G.out.sum k
    have hus := G.out.usum k
    by_cases hlt : k < l.length
    · obtain ⟨b, off, x, rfl, hbl, hcell0, hx⟩ := H.out.get hlt
      have hcell : wr.cell? ⟨b, off + k, none⟩ = some (.int .i64 x) := (hC.below.cell (p := ⟨b, off + k, none⟩) hbl).trans hcell0
      have hs1 := G.out.sum (k + 1)
      have hus1 := G.out.usum (k + 1)
      have hst := Lib.hid (En.take_snoc hlt)
      rw [hst.out, hx.out, Sh.sum_snoc] at hs1
      rw [hst.out, hx.out, En.usum_snoc] at hus1
      have hxb : 0 ≤ x ∧ x ≤ 68719476736 := by
        rw [← hx.out, List.getD_eq_getElem?_getD, List.getElem?_eq_getElem hlt]
        exact G.out.all _ (List.getElem_mem hlt)
      have c1 := hC.b1
      have c2 := hC.b2
      have c3 := hC.bf1
      have c4 := hC.bf2
      clear hC hcell0
      have x0 : 0 ≤ x / u := Int.ediv_nonneg hxb.1 (by omega)
      have x1 : x / u ≤ 68719476736 := by have := Int.ediv_le_self u hxb.1; omega
      go_wp2_with fail
      go_region
      go_wp2_with fail
      have hdq : IntKind.i64.wrap (x.tdiv u) = x / u := by
        rw [Int.tdiv_eq_ediv_of_nonneg hxb.1]; generalize x / u = y at x0 x1 ⊢; rw [IntKind.wrap_i64]; omega
      have lt0 := HC.out.lt
      go_region_law ((refine Own.step HI.out.1 HI.out.2.1 HI.out.2.2.1 HI.out.2.2.2 Try.underlying28 (by rfl) (.tmp 61) (.tmp 65) (by rfl) (w.heap.size + 1 + 1) v (En.units u (l.take k)) (x / u) wr.heap.size (World.ownsRow.drew (World.ownsRow.drew (World.ownsRow.alloc (ownsRow_setCell_below HC.out.own (by simp) _) _))) (by rfl) (by rfl) (by go_simp) (by have := HC.out.lt; simp; omega) (by rw [En.units_len]; simp; omega) ?_; intro v1 w1 hown1 hb1; obtain ⟨p1, cc1, rfl, hI1⟩ := hown1.ints; clear hI1; have k1 := (hb1.cell (p := ⟨w.heap.size + 1, 1, none⟩) (by simp)).trans (show _ = some v by first | (go_simp; done) | (go_simp; exact c1)); have k2 := (hb1.frozen (p := ⟨w.heap.size + 1, 1, none⟩) (by simp)).trans (show _ = false by first | (go_simp; done) | (go_simp; exact c3))))
      all_goals
        have hC2 := HC.out.step hb1 hown1
        rw [← hx.out, ← hst.out] at hC2
        rw [hx.out] at hC2
        have HC2 := Lib.hid hC2
        clear hC2 hown1 hb1 HC
        go_wp2
        go_roundw
        case rel => exact ⟨k + 1, _, by omega, by go_num, by rw [hst.out, hx.out, Sh.sum_snoc], by simpa using HC2.out⟩
        case measure => simp [intOf]; omega
    · obtain rfl : k = l.length := by omega
      rw [List.take_length] at hC hs0 hus
      have c0 := hC.b0
      have c1 := hC.b1
      have c2 := hC.b2
      have d0 := hC.a0
      have d1 := hC.a1
      have d2 := hC.a2
      have g0 := hC.af0
      have g1 := hC.af1
      have g2 := hC.af2
      have hbel := hC.below
      obtain ⟨p1, cc1, rfl, hI1⟩ := hC.own.ints
      have HO := Lib.hid (ownsRow_setCell_below (ownsRow_setCell_below (ownsRow_setCell_below hC.own (a := ⟨w.heap.size, 0, none⟩) (by simp; omega) (.int .i64 (e / u))) (a := ⟨w.heap.size, 1, none⟩) (by simp; omega) (.slice p1 (En.units u l).length cc1)) (a := ⟨w.heap.size, 2, none⟩) (by simp; omega) (.int .i64 (En.usum u l)))
      have HB1 := Lib.hid (((hbel.setCell (p := ⟨w.heap.size, 0, none⟩) (by simp) (.int .i64 (e / u))).setCell (p := ⟨w.heap.size, 1, none⟩) (by simp) (.slice p1 (En.units u l).length cc1)).setCell (p := ⟨w.heap.size, 2, none⟩) (by simp) (.int .i64 (En.usum u l)))
      clear hI1 hbel hC HC hlt hk
      go_wp2
      refine bodyPost_ret (v := .tuple #[.agg #[.int .i64 (e / u), .slice p1 (En.units u l).length cc1, .int .i64 (En.usum u l)], .int .i64 0]) ?_ rfl ⟨p1, cc1, by rw [En.units_len], Own.ints_at HO.out, HB1.out⟩
      rw [results_cell_tmp rfl]
      go_simp

theorem En.Good.snoc {e u x : Int} {l : List Int} (h : En.Good e u l) (hx : 0 ≤ x ∧ x ≤ 68719476736) (hl : l.length < 64) : En.Good e u (l ++ [x]) :=
  ⟨h.e0, h.e1, h.u0, h.u1, by simp; omega, fun y hy => by
    rcases List.mem_append.1 hy with h1 | h1
    · exact h.all y h1
    · rw [List.mem_singleton.1 h1]; exact hx⟩

set_option maxRecDepth 100000 in
set_option maxHeartbeats 4000000 in
theorem count_odd (e u : Int) (p : Option Addr) (l : List Int) (cap : Nat) (w : World) (h : Ints w p l) (hg : En.Good e u []) (hl : l.length ≤ 64) (hbad : ¬ En.Good e u l) :
    Calls Try.prog 66 #[.int .i64 e, .int .i64 u, .slice p l.length cap] w fun en w' => en = .returned (.tuple #[.agg #[.int .i64 0, .slice none 0 0, .int .i64 0], .int .i64 67]) ∧ Below w.heap.size w w' := by
  have H := Lib.hid h
  have G := Lib.hid hg
  have e0 := hg.e0
  have e1 := hg.e1
  have u0 := hg.u0
  have u1 := hg.u1
  have HBAD := Lib.hid hbad
  have q0 : 0 ≤ e / u := Int.ediv_nonneg e0 (by omega)
  have q1 : e / u ≤ 68719476736 := by have := Int.ediv_le_self u e0; omega
  have hu0 : ¬ u = 0 := by omega
  clear h hg hbad
  go_enter Try.func66, Try.ntmps66
  go_wp2
  have hst : Cnt w ((w.alloc (Obj.cells #[.int .i64 0, .slice none 0 0, .int .i64 0] 87)).alloc (Obj.cells #[.int .i64 (e / u), .slice none 0 0, .int .i64 0] 87)) w.heap.size e u [] (.slice none 0 0) :=
    ⟨by go_grown, Own.nil _ _ _, by go_simp, by go_simp, by go_simp, by go_simp, by go_simp, by go_simp, by go_simp, by go_simp, (by show _ = some (Value.int .i64 0); go_simp), by go_simp, by go_simp, by simp⟩
  have HST := Lib.hid hst
  clear hst
  obtain ⟨i0, hi, hz0, hz1, hz2⟩ := info_parts info_int
  have HI := Lib.hid (And.intro hi (And.intro hz0 (And.intro hz1 hz2)))
  clear hi hz0 hz1 hz2
  go_loopw [39, 9] (fun i s wr => ∃ (k : Nat) (v : Value), k ≤ l.length ∧ i = .int .i64 k ∧ s = .int .i64 (Sh.sum (l.take k)) ∧ En.Good e u (l.take k) ∧ Cnt w wr w.heap.size e u (l.take k) v) (fun i _ _ => l.length - (intOf i).toNat)
  case atStart => exact ⟨0, _, Nat.zero_le _, rfl, by simp [Sh.sum], G.out, HST.out⟩
  case round =>
    clear HST
    obtain ⟨k, v, hk, rfl, rfl, hGk, hC⟩ := hrel
    have GK := Lib.hid hGk
    clear hGk
    have HC := Lib.hid hC
    have hs0 := GK.out.sum k
    have hus := GK.out.usum k
    rw [List.take_take, Nat.min_self] at hs0 hus
    by_cases hlt : k < l.length
    · obtain ⟨b, off, x, rfl, hbl, hcell0, hx⟩ := H.out.get hlt
      have hcell : wr.cell? ⟨b, off + k, none⟩ = some (.int .i64 x) := (hC.below.cell (p := ⟨b, off + k, none⟩) hbl).trans hcell0
      have hst := Lib.hid (En.take_snoc hlt)
      by_cases hxb : 0 ≤ x ∧ x ≤ 68719476736
      case neg =>
        have hbel := HC.out.below
        have lt0 := HC.out.lt
        have d0 := HC.out.a0
        have d1 := HC.out.a1
        have d2 := HC.out.a2
        have g0 := HC.out.af0
        have g1 := HC.out.af1
        have g2 := HC.out.af2
        have hxb' : x < 0 ∨ 68719476736 < x := by omega
        clear hxb hC
        go_wp2
        all_goals
          refine bodyPost_ret (v := .tuple #[.agg #[.int .i64 0, .slice none 0 0, .int .i64 0], .int .i64 67]) ?_ rfl ⟨rfl, by go_grown⟩
          rw [results_cell_tmp rfl]
          go_simp
      have hG1 : En.Good e u (l.take k ++ [x]) := GK.out.snoc hxb (by rw [List.length_take]; omega)
      have hs1 := hG1.sum (k + 1)
      have hus1 := hG1.usum (k + 1)
      have hlk : (l.take k ++ [x]).length = k + 1 := by simp; omega
      rw [List.take_of_length_le (by omega), Sh.sum_snoc] at hs1
      rw [List.take_of_length_le (by omega), En.usum_snoc] at hus1
      have HG1 := Lib.hid hG1
      clear hG1 hlk
      have c1 := hC.b1
      have c2 := hC.b2
      have c3 := hC.bf1
      have c4 := hC.bf2
      clear hC hcell0
      have x0 : 0 ≤ x / u := Int.ediv_nonneg hxb.1 (by omega)
      have x1 : x / u ≤ 68719476736 := by have := Int.ediv_le_self u hxb.1; omega
      go_wp2_with fail
      go_region
      go_wp2_with fail
      have hdq : IntKind.i64.wrap (x.tdiv u) = x / u := by
        rw [Int.tdiv_eq_ediv_of_nonneg hxb.1]; generalize x / u = y at x0 x1 ⊢; rw [IntKind.wrap_i64]; omega
      have lt0 := HC.out.lt
      go_region_law ((refine Own.step HI.out.1 HI.out.2.1 HI.out.2.2.1 HI.out.2.2.2 Try.underlying28 (by rfl) (.tmp 61) (.tmp 65) (by rfl) (w.heap.size + 1 + 1) v (En.units u (l.take k)) (x / u) wr.heap.size (World.ownsRow.drew (World.ownsRow.drew (World.ownsRow.alloc (ownsRow_setCell_below HC.out.own (by simp) _) _))) (by rfl) (by rfl) (by go_simp) (by have := HC.out.lt; simp; omega) (by rw [En.units_len]; simp; omega) ?_; intro v1 w1 hown1 hb1; obtain ⟨p1, cc1, rfl, hI1⟩ := hown1.ints; clear hI1; have k1 := (hb1.cell (p := ⟨w.heap.size + 1, 1, none⟩) (by simp)).trans (show _ = some v by first | (go_simp; done) | (go_simp; exact c1)); have k2 := (hb1.frozen (p := ⟨w.heap.size + 1, 1, none⟩) (by simp)).trans (show _ = false by first | (go_simp; done) | (go_simp; exact c3))))
      all_goals
        have hC2 := HC.out.step hb1 hown1
        rw [← hx.out, ← hst.out] at hC2
        rw [hx.out] at hC2
        have HC2 := Lib.hid hC2
        clear hC2 hown1 hb1 HC
        go_wp2
        go_roundw
        case rel => exact ⟨k + 1, _, by omega, by go_num, by rw [hst.out, hx.out, Sh.sum_snoc], by rw [hst.out, hx.out]; exact HG1.out, by simpa using HC2.out⟩
        case measure => simp [intOf]; omega
    · exact absurd (by have := GK.out; rwa [show k = l.length by omega, List.take_length] at this) HBAD.out

set_option maxRecDepth 100000 in
set_option maxHeartbeats 4000000 in
theorem count_bad (e u : Int) (p : Option Addr) (l : List Int) (cap : Nat) (w : World) (h : Ints w p l) (hg : En.err e u l ≠ 0) :
    Calls Try.prog 66 #[.int .i64 e, .int .i64 u, .slice p l.length cap] w fun en w' => en = .returned (.tuple #[.agg #[.int .i64 0, .slice none 0 0, .int .i64 0], .int .i64 (En.err e u l)]) ∧ Below w.heap.size w w' := by
  by_cases h1 : En.money e = false
  · have h1' := En.money_not.1 h1
    have he : En.err e u l = 67 := by unfold En.err; rw [if_pos h1]
    rw [he]
    clear hg
    go_enter Try.func66, Try.ntmps66
    go_wp2
    all_goals
      refine bodyPost_ret (v := .tuple #[.agg #[.int .i64 0, .slice none 0 0, .int .i64 0], .int .i64 67]) ?_ rfl ⟨rfl, by go_grown⟩
      rw [results_cell_tmp rfl]
      go_simp
  have m := En.money_iff.1 (show En.money e = true by simpa using h1)
  by_cases h2 : u < 1 ∨ 100000 < u
  · have he : En.err e u l = 2 := by unfold En.err; rw [if_neg h1, if_pos h2]
    rw [he]
    clear hg
    go_enter Try.func66, Try.ntmps66
    go_wp2
    all_goals
      refine bodyPost_ret (v := .tuple #[.agg #[.int .i64 0, .slice none 0 0, .int .i64 0], .int .i64 2]) ?_ rfl ⟨rfl, by go_grown⟩
      rw [results_cell_tmp rfl]
      go_simp
  by_cases h3 : 64 < l.length
  · have he : En.err e u l = 1 := by unfold En.err; rw [if_neg h1, if_neg h2, if_pos h3]
    rw [he]
    have u0 : 1 ≤ u := by omega
    have u1 : u ≤ 100000 := by omega
    have hl : (64 : Int) < (l.length : Int) := by omega
    clear hg h2
    go_enter Try.func66, Try.ntmps66
    go_wp2
    all_goals
      refine bodyPost_ret (v := .tuple #[.agg #[.int .i64 0, .slice none 0 0, .int .i64 0], .int .i64 1]) ?_ rfl ⟨rfl, by go_grown⟩
      rw [results_cell_tmp rfl]
      go_simp
  have hb : ¬ En.Good e u l := fun hG => hg (En.err_of hG)
  have he : En.err e u l = 67 := by
    unfold En.err at hg ⊢
    rw [if_neg h1, if_neg h2, if_neg h3] at hg ⊢
    split at hg
    · rw [if_pos (by assumption)]
    · exact absurd rfl hg
  rw [he]
  exact count_odd e u p l cap w h ⟨m.1, m.2, by omega, by omega, by simp, by simp⟩ (by omega) hb

end Go.Proofs.Ytlmikbjnibiajaa
