/-
  THE WALK over the reference's Shares: it returns what the program's Shares returns.
-/
import Derived.Test.YtmgdbbmheiligaaEr
import Derived.Test.YtmgdbbmheiligaaPt
import Derived.Deep.RegionHeld3
import Derived.Deep.DeepCutAuto
namespace Go.Proofs.Ytmgdbbmheiligaa
open Go.RowKit

theorem info_bool : (Try.prog.info? 4).map (fun i => (i.zero, i.size, i.bytes)) = some (some (.bool false), 1, 1) := by kernel_rfl

theorem make_bools (n : Nat) (hn : n ≤ 35184372088832) (w : World) :
    (Instr.makeSlice 87 (.int .i64 (n : Int)) (.int .i64 (n : Int))).run Try.prog w = .ok (.slice (some ⟨w.heap.size, 0, none⟩) n n) (w.alloc (.cells (madeCells #[.bool false] n) 4)) := by
  obtain ⟨i0, hi, hz0, hz1, hz2⟩ := info_parts info_bool
  have hr := run_make (P := Try.prog) w 87 4 i0 (.bool false) Try.underlying87 hi hz0 .i64 .i64 n n (by omega) (Int.le_refl _) (by rw [hz2]; omega) (by omega)
  simp only [Int.toNat_natCast, hz1, Nat.mul_one] at hr
  exact hr

structure R3 (w wr : World) (B ob rb n k : Nat) (q r : Nat → Int) : Prop where
  below : Below B w wr
  out : Row wr ob n fun j => .int .i64 (if j < k then q j else 0)
  rst : Row wr rb n fun j => .int .i64 (if j < k then r j else 0)
  ho : B ≤ ob
  hr : B ≤ rb
  hne : ob ≠ rb

theorem R3.places {w wr w1 : World} {B ob rb n k : Nat} {q r : Nat → Int} (h : R3 w wr B ob rb n k q r) (hk : k < n) (hb : Below wr.heap.size wr w1) :
    (w1.cell? ⟨ob, k, none⟩ = some (.int .i64 0) ∧ w1.frozen? ⟨ob, k, none⟩ = false) ∧ (w1.cell? ⟨rb, k, none⟩ = some (.int .i64 0) ∧ w1.frozen? ⟨rb, k, none⟩ = false) := by
  have a := (h.out.below hb).2 k hk
  have c := (h.rst.below hb).2 k hk
  simp only [Nat.lt_irrefl, if_false] at a c
  exact ⟨a, c⟩

theorem row_up {k : Nat} (f : Nat → Int) (j : Nat) : (if j = k then Value.int .i64 (f k) else .int .i64 (if j < k then f j else 0)) = .int .i64 (if j < k + 1 then f j else 0) := by
  by_cases e : j = k
  · subst e; simp
  · rw [if_neg e]; congr 1; by_cases hj : j < k
    · rw [if_pos hj, if_pos (by omega)]
    · rw [if_neg hj, if_neg (by omega)]

theorem R3.next {w wr w1 : World} {B ob rb n k : Nat} {q r : Nat → Int} (h : R3 w wr B ob rb n k q r) (hk : k < n) (hb : Below wr.heap.size wr w1) (hB : B ≤ wr.heap.size) :
    R3 w ((w1.setCell ⟨ob, k, none⟩ (.int .i64 (q k))).setCell ⟨rb, k, none⟩ (.int .i64 (r k))) B ob rb n (k + 1) q r :=
  ⟨((bnext h.below hB hb).setCell h.ho _).setCell h.hr _, (((h.out.below hb).set hk _).other h.hne.symm _).congr fun j _ => row_up q j, (((h.rst.below hb).other h.hne _).set hk _).congr fun j _ => row_up r j, h.ho, h.hr, h.hne⟩

theorem R3.start (w : World) (n : Nat) (q r : Nat → Int) : R3 w (((w.alloc (.cells (madeCells #[.int .i64 0] n) 3)).alloc (.cells (madeCells #[.int .i64 0] n) 3)).drew) w.heap.size w.heap.size (w.heap.size + 1) n 0 q r := by
  have z : ∀ (f : Nat → Int) (wr : World) (b : Nat), Row wr b n (fun _ => .int .i64 0) → Row wr b n fun j => .int .i64 (if j < 0 then f j else 0) := fun f wr b h => h.congr fun j _ => by simp
  refine ⟨by go_grown, z _ _ _ (((Row.made w n _ _).alloc _).drew), z _ _ _ ?_, Nat.le_refl _, by omega, by omega⟩
  have := Row.made (w.alloc (.cells (madeCells #[.int .i64 0] n) 3)) n 3 (.int .i64 0)
  rw [World.size_alloc] at this
  exact this.drew

theorem R3.turn {w wr : World} {B ob rb n : Nat} {q r q' r' : Nat → Int} (h : R3 w wr B ob rb n 0 q r) : R3 w wr B rb ob n 0 q' r' :=
  ⟨h.below, h.rst.congr fun j _ => by simp, h.out.congr fun j _ => by simp, h.hr, h.ho, h.hne.symm⟩

structure R4 (w wr : World) (B ob rb gb n k : Nat) (t : Int) (zs : List Int) : Prop where
  below : Below B w wr
  out : Row wr ob n fun j => .int .i64 (Sh.quo t zs j + if Sh.top n (Sh.rest t zs) k j = true then 1 else 0)
  rst : Row wr rb n fun j => .int .i64 (Sh.rest t zs j)
  gvn : Row wr gb n fun j => .bool (Sh.top n (Sh.rest t zs) k j)
  ho : B ≤ ob
  hg : B ≤ gb
  h1 : ob ≠ rb
  h2 : ob ≠ gb
  h3 : rb ≠ gb

theorem R4.drewN {w wr : World} {B ob rb gb n k : Nat} {t : Int} {zs : List Int} (h : R4 w wr B ob rb gb n k t zs) (m : Nat) : R4 w (wr.drewN m) B ob rb gb n k t zs :=
  ⟨h.below.trans ⟨rfl, rfl, rfl, Nat.le_refl _, fun _ _ => rfl⟩, h.out, h.rst, h.gvn, h.ho, h.hg, h.h1, h.h2, h.h3⟩

theorem R4.next {w wr : World} {B ob rb gb n k i : Nat} {t : Int} {zs : List Int} (h : R4 w wr B ob rb gb n k t zs) (hk : k < n) (hi : (Sh.order n (Sh.rest t zs)).getD k 0 = i) :
    i < n ∧ wr.cell? ⟨ob, i, none⟩ = some (.int .i64 (Sh.quo t zs i)) ∧ wr.frozen? ⟨ob, i, none⟩ = false ∧ wr.cell? ⟨gb, i, none⟩ = some (.bool false) ∧ wr.frozen? ⟨gb, i, none⟩ = false ∧
    R4 w ((wr.setCell ⟨gb, i, none⟩ (.bool true)).setCell ⟨ob, i, none⟩ (.int .i64 (Sh.quo t zs i + 1))) B ob rb gb n (k + 1) t zs := by
  have hkl : k < (Sh.order n (Sh.rest t zs)).length := by rw [Sh.order_len]; exact hk
  have e : (Sh.order n (Sh.rest t zs))[k] = i := by rw [← hi, List.getD_eq_getElem?_getD, List.getElem?_eq_getElem hkl]; rfl
  have hin : i < n := by rw [← e]; exact (Sh.order_mem n _ _).1 (List.getElem_mem hkl)
  have ht : Sh.top n (Sh.rest t zs) k i = false := by rw [← e]; exact Sh.top_at hkl
  have c := h.out.2 i hin
  have d := h.gvn.2 i hin
  simp only [ht, Bool.false_eq_true, if_false, Int.add_zero] at c d
  refine ⟨hin, c.1, c.2, d.1, d.2, (h.below.setCell h.hg _).setCell h.ho _, ((h.out.other h.h2.symm _).set hin _).congr fun j _ => ?_, (h.rst.other h.h3.symm _).other h.h1 _, ((h.gvn.set hin _).other h.h2 _).congr fun j _ => ?_, h.ho, h.hg, h.h1, h.h2, h.h3⟩
  · rw [Sh.top_succ hkl, e]
    by_cases hj : j = i
    · subst hj
      rw [if_pos rfl]
      simp
    · rw [if_neg hj]
      simp [hj]
  · rw [Sh.top_succ hkl, e]
    by_cases hj : j = i
    · subst hj
      rw [if_pos rfl]
      simp
    · rw [if_neg hj]
      simp [hj]

theorem right_not {t : Int} {zs : List Int} (h : Sh.Right t zs) (k : Nat) : ¬ Sh.sum zs ≤ t * zs.getD k 0 / 18446744073709551616 := by
  have w1 := h.w1 k
  have hp := h.pos
  have h1 : t * zs.getD k 0 ≤ t * Sh.sum zs := Int.mul_le_mul_of_nonneg_left w1 h.ht
  have h2 : t * Sh.sum zs ≤ 1099511627776 * Sh.sum zs := Int.mul_le_mul_of_nonneg_right h.ht' (by omega)
  omega

theorem right_rq {t : Int} {zs : List Int} (h : Sh.Right t zs) (k : Nat) : rq t (zs.getD k 0) (Sh.sum zs) = Sh.quo t zs k := by
  unfold rq
  rw [if_neg (right_not h k)]
  have h1 := h.quo1 k
  have h0 := h.quo0 k
  have ht := h.ht'
  unfold Sh.quo at *
  exact IntWalk.wrap64_in _ ⟨by omega, by omega⟩

theorem right_rr {t : Int} {zs : List Int} (h : Sh.Right t zs) (k : Nat) : rr t (zs.getD k 0) (Sh.sum zs) = Sh.rest t zs k := by
  unfold rr
  rw [if_neg (right_not h k)]
  rfl

def shGood (t : Int) (zs : List Int) : List Int := if Sh.sum zs = 0 then List.replicate zs.length 0 else Sh.shares t zs

set_option maxRecDepth 100000 in
set_option maxHeartbeats 4000000 in
theorem refshares_good (t : Int) (p : Option Addr) (zs : List Int) (cap : Nat) (w : World) (h : Ints w p zs) (h1 : zs.length ≤ 64) (h2 : Sh.limited t = true) (h3 : (zs.any fun x => !Sh.limited x) = false) :
    Calls Try.prog 31 #[.int .i64 t, .slice p zs.length cap] w (GivesInts w (shGood t zs) 0) := by
  have hl := h.len
  have H := Lib.hid h
  have hm := make_ints zs.length (by omega)
  have hmb := make_bools zs.length (by omega)
  have hsum := sum_take_bd h1 h3
  have HS := Lib.hid hsum
  obtain ⟨t0, t1⟩ := Sh.limited_iff.1 h2
  have hx : ∀ k, k < zs.length → 0 ≤ zs.getD k 0 ∧ zs.getD k 0 ≤ 1099511627776 := fun k hk => by
    rw [List.getD_eq_getElem?_getD, List.getElem?_eq_getElem hk]
    apply Sh.limited_iff.1
    rw [List.any_eq_false] at h3
    simpa using h3 _ (List.getElem_mem hk)
  have HX := Lib.hid hx
  have H23 := Lib.hid (And.intro h2 h3)
  clear h hsum hx h2 h3
  go_enter Try.func31, Try.ntmps31
  go_wp2
  go_loop [31, 7] (fun i s => ∃ k : Nat, k ≤ zs.length ∧ i = .int .i64 k ∧ s = .bool false) (fun i _ => zs.length - (intOf i).toNat)
  case atStart => exact ⟨0, Nat.zero_le _, rfl, by simp; omega⟩
  case round =>
    obtain ⟨k, hk, rfl, rfl⟩ := hrel
    by_cases hlt : k < zs.length
    · obtain ⟨b, off, x, rfl, hbl, hcell, hx⟩ := H.out.get hlt
      obtain ⟨x0, x1⟩ := HX.out k hlt
      rw [hx.out] at x0 x1
      go_wp2
      go_round
      case rel => exact ⟨k + 1, by omega, by go_num, by simp; omega⟩
      case measure => simp [intOf]; omega
    · obtain rfl : k = zs.length := by omega
      clear hlt hk
      go_wp2
      go_loop [48, 6] (fun i s => ∃ k : Nat, k ≤ zs.length ∧ i = .int .i64 k ∧ s = .int .i64 (Sh.sum (zs.take k))) (fun i _ => zs.length - (intOf i).toNat)
      case atStart => exact ⟨0, Nat.zero_le _, rfl, by simp [Sh.sum]⟩
      case round =>
        obtain ⟨k, hk, rfl, rfl⟩ := hrel
        have hb := HS.out k
        by_cases hlt : k < zs.length
        · obtain ⟨b, off, x, rfl, hbl, hcell, hx⟩ := H.out.get hlt
          have hb1 := HS.out (k + 1)
          rw [sum_take_succ hlt, hx.out] at hb1
          have hst := Lib.hid (sum_take_succ hlt)
          go_wp2
          go_round
          case rel => exact ⟨k + 1, by omega, by go_num, by rw [hst.out, hx.out]⟩
          case measure => simp [intOf]; omega
        · obtain rfl : k = zs.length := by omega
          rw [List.take_length] at hb ⊢
          clear hlt hk
          go_upto_region 17 with fail
          go_cut [12, 13] (fun s12 s13 wx => ∃ ob rb : Nat, s12 = .slice (some ⟨ob, 0, none⟩) zs.length zs.length ∧ s13 = .slice (some ⟨rb, 0, none⟩) zs.length zs.length ∧ R3 w wx w.heap.size ob rb zs.length 0 (Sh.quo t zs) (Sh.rest t zs) ∧ w.heap.size ≤ wx.heap.size)
          case first =>
            go_region
            all_goals (go_wp2_with fail; go_meet)
            · exact ⟨_, _, rfl, rfl, R3.start w zs.length _ _, by simp; omega⟩
            · exact ⟨_, _, rfl, rfl, (R3.start w zs.length (Sh.quo t zs) (Sh.rest t zs)).turn, by simp; omega⟩
          case rest =>
            obtain ⟨ob, rb, rfl, rfl, hR3, hsz⟩ := hcut
            by_cases hs : Sh.sum zs = 0
            · have hsB : (Sh.sum zs == 0) = true := by rw [hs]; rfl
              have hg : shGood t zs = List.replicate zs.length 0 := by unfold shGood; rw [if_pos hs]
              have hR := Lib.hid hR3
              have HG := Lib.hid hg
              clear hs hg hR3
              go_wp2
              go_ret2
              rw [HG.out]
              refine ⟨some ⟨ob, 0, none⟩, zs.length, by rw [List.length_replicate]; rfl, ?_, hR.out.below⟩
              have := Row.ints (hR.out.out.congr (g := fun _ => .int .i64 0) fun j _ => by simp) (by unfold maxLen; omega)
              rwa [show (List.range zs.length).map (fun _ => (0 : Int)) = List.replicate zs.length 0 from by simp [List.map_const']] at this
            · have hsB : (Sh.sum zs == 0) = false := by simpa using hs
              have hg : shGood t zs = Sh.shares t zs := by unfold shGood; rw [if_neg hs]
              have hRt := any_odd H23.out.1 H23.out.2 hs
              have HR := Lib.hid hRt
              have HG := Lib.hid hg
              have H3 := Lib.hid hR3
              have hdv : ∀ k W, Calls Try.prog 56 #[.int .i64 t, .int .i64 (zs.getD k 0), .int .i64 (Sh.sum zs)] W fun e w' => e = .returned (.tuple #[.int .i64 (Sh.quo t zs k), .int .i64 (Sh.rest t zs k), .bool (rk t (zs.getD k 0) (Sh.sum zs))]) ∧ ∃ n, w' = W.drewN n := fun k W => by
                obtain ⟨d1, d2, d3⟩ := right_div hRt h1 k
                have := refdivide_any d1 W
                rwa [right_rq hRt k, right_rr hRt k] at this
              have HD := Lib.hid hdv
              clear hdv hg hs hR3 hRt hb
              go_wp2_with fail
              go_loopw [68, 14] (fun i l wr => ∃ k : Nat, k ≤ zs.length ∧ i = .int .i64 k ∧ l = .int .i64 (t - Sh.sum ((List.range k).map (Sh.quo t zs))) ∧ R3 w wr w.heap.size ob rb zs.length k (Sh.quo t zs) (Sh.rest t zs) ∧ w.heap.size ≤ wr.heap.size) (fun i _ _ => zs.length - (intOf i).toNat)
              case atStart => exact ⟨0, Nat.zero_le _, rfl, by simp [Sh.sum], H3.out, hsz⟩
              case round =>
                clear H3 hsz
                obtain ⟨k, hk, rfl, rfl, hL, hsz⟩ := hrel
                have HL := Lib.hid hL
                by_cases hlt : k < zs.length
                · obtain ⟨b, off, x, rfl, hbl, hcell0, hx⟩ := H.out.get hlt
                  have hcell : wr.cell? ⟨b, off + k, none⟩ = some (.int .i64 x) := (hL.below.cell (p := ⟨b, off + k, none⟩) hbl).trans hcell0
                  have hne := hL.hne
                  have hd := HD.out k
                  rw [hx.out] at hd
                  have Hd := Lib.hid hd
                  clear hL hcell0 hd
                  have hk0 : (0 : Int) ≤ (k : Int) := Int.natCast_nonneg _
                  have hk1 : (k : Int) < (zs.length : Int) := by omega
                  have hq := HR.out.quo_bd k
                  have hQ := HR.out.quo_sum k
                  go_wp2_with (first | (go_at_call 56; refine (Hd.out _).mono ?_; rintro e w1 ⟨rfl, m, rfl⟩; have hb1 := drewN_below wr m; obtain ⟨⟨a1, a2⟩, ⟨c1, c2⟩⟩ := HL.out.places hlt hb1))
                  go_roundw
                  case rel => exact ⟨k + 1, by omega, by go_num, by rw [Sh.quo_succ]; congr 1; omega, HL.out.next hlt hb1 hsz, by simpa [World.setCell, World.drewN] using hsz⟩
                  case measure => simp [intOf]; omega
                · obtain rfl : k = zs.length := by omega
                  clear hlt hk HD
                  obtain ⟨e1, -⟩ := HR.out.left_eq
                  have hll := HR.out.left_lt
                  rw [← e1]
                  clear e1
                  have h4s : R4 w (wr.alloc (.cells (madeCells #[.bool false] zs.length) 4)) w.heap.size ob rb wr.heap.size zs.length 0 t zs := by
                    refine ⟨hL.below.alloc hsz _, (hL.out.congr fun j hj => ?_).alloc _, (hL.rst.congr fun j hj => ?_).alloc _, (Row.made wr zs.length _ _).congr fun j _ => by rw [Sh.top_zero], hL.ho, hsz, hL.hne, Nat.ne_of_lt hL.out.1, Nat.ne_of_lt hL.rst.1⟩
                    · rw [if_pos hj, Sh.top_zero]; simp
                    · rw [if_pos hj]
                  have H4 := Lib.hid h4s
                  clear h4s hL HL
                  have hnl := HR.out.len
                  go_wp2_with fail
                  generalize wr.alloc (.cells (madeCells #[.bool false] zs.length) 4) = w4 at *
                  generalize wr.heap.size = gb at *
                  go_loopw [14] (fun l wr' => ∃ k : Nat, k ≤ Sh.left t zs ∧ l = .int .i64 ((Sh.left t zs : Int) - k) ∧ R4 w wr' w.heap.size ob rb gb zs.length k t zs) (fun l _ => (intOf l).toNat)
                  case atStart => exact ⟨0, Nat.zero_le _, by simp, H4.out⟩
                  case round =>
                    clear H4
                    obtain ⟨w5, rfl⟩ : ∃ w5 : World, w5 = wr := ⟨_, rfl⟩
                    obtain ⟨k, hk, rfl, hL⟩ := hrel
                    by_cases hkl : k < Sh.left t zs
                    · have HL := Lib.hid hL
                      clear hL
                      go_wp2_with fail
                      go_loopw [18, 103] (fun b i wx => ∃ (j : Nat) (bi : Int), j ≤ zs.length ∧ i = .int .i64 j ∧ b = .int .i64 bi ∧ Sh.Best zs.length (Sh.rest t zs) k j bi ∧ ∃ m, wx = w5.drewN m) (fun _ i _ => zs.length - (intOf i).toNat)
                      case atStart => exact ⟨0, -1, Nat.zero_le _, rfl, rfl, Sh.best_zero, 0, rfl⟩
                      case round =>
                        obtain ⟨j, bi, hj, rfl, rfl, hbst, m, rfl⟩ := hrel
                        have HB := Lib.hid hbst
                        by_cases hjl : j < zs.length
                        · have hj0 : (0 : Int) ≤ (j : Int) := Int.natCast_nonneg _
                          have hj1 : (j : Int) < (zs.length : Int) := by omega
                          have cg : w5.cell? ⟨gb, j, none⟩ = some (.bool (Sh.top zs.length (Sh.rest t zs) k j)) := (HL.out.gvn.2 j hjl).1
                          have cr : w5.cell? ⟨rb, j, none⟩ = some (.int .i64 (Sh.rest t zs j)) := (HL.out.rst.2 j hjl).1
                          rcases Bool.eq_false_or_eq_true (Sh.top zs.length (Sh.rest t zs) k j) with ht | ht
                          · rw [ht] at cg
                            have HT := Lib.hid ht
                            clear ht hbst
                            go_wp2_with fail
                            go_quiet (fail)
                            go_wp2
                            go_roundw
                            case rel => exact ⟨j + 1, bi, by omega, by go_num, rfl, Sh.best_skip HB.out HT.out, _, rfl⟩
                            case measure => simp [intOf]; omega
                          · rw [ht] at cg
                            have HT := Lib.hid ht
                            rcases Sh.best_range hbst with hneg | ⟨mm, hmm, hml⟩
                            · subst hneg
                              clear ht hbst
                              go_wp2_with fail
                              go_quiet (fail)
                              go_wp2
                              go_roundw
                              case rel => exact ⟨j + 1, j, by omega, by go_num, rfl, Sh.best_first HB.out (by omega) HT.out, _, rfl⟩
                              case measure => simp [intOf]; omega
                            · subst hmm
                              have cm : w5.cell? ⟨rb, mm, none⟩ = some (.int .i64 (Sh.rest t zs mm)) := (HL.out.rst.2 mm (by omega)).1
                              have hm0 : (0 : Int) ≤ (mm : Int) := Int.natCast_nonneg _
                              have hm1 : (mm : Int) < (zs.length : Int) := by omega
                              have hm2 : decide ((mm : Int) < 0) = false := decide_eq_false (by omega)
                              by_cases hr : Sh.rest t zs mm < Sh.rest t zs j
                              · have HQ := Lib.hid (Sh.best_more HB.out hm0 HT.out (by rw [Int.toNat_natCast]; exact hr))
                                clear ht hbst
                                go_wp2_with fail
                                go_quiet (fail)
                                go_wp2
                                go_roundw
                                case rel => exact ⟨j + 1, j, by omega, by go_num, rfl, HQ.out, _, rfl⟩
                                case measure => simp [intOf]; omega
                              · have HQ := Lib.hid (Sh.best_keep HB.out hm0 HT.out (by rw [Int.toNat_natCast]; exact hr))
                                clear ht hbst
                                go_wp2_with fail
                                go_quiet (fail)
                                go_wp2
                                go_roundw
                                case rel => exact ⟨j + 1, mm, by omega, by go_num, rfl, HQ.out, _, rfl⟩
                                case measure => simp [intOf]; omega
                        · obtain rfl : j = zs.length := by omega
                          have hbe := Sh.best_end hbst (by omega)
                          obtain ⟨i, hi⟩ : ∃ i, (Sh.order zs.length (Sh.rest t zs)).getD k 0 = i := ⟨_, rfl⟩
                          rw [hi] at hbe
                          subst hbe
                          obtain ⟨n1, n2, n3, n4, n5, n6⟩ := (HL.out.drewN m).next (by omega) hi
                          have N6 := Lib.hid n6
                          have hq := HR.out.quo_bd i
                          have hi0 : (0 : Int) ≤ (i : Int) := Int.natCast_nonneg _
                          have hi1 : (i : Int) < (zs.length : Int) := by omega
                          have hne := HL.out.h2
                          clear hbst HB n6 hi hjl hj
                          go_wp2
                          go_roundw
                          case rel => exact ⟨k + 1, by omega, by congr 1; omega, N6.out⟩
                          case measure => simp [intOf]; omega
                    · obtain rfl : k = Sh.left t zs := by omega
                      have HL := Lib.hid hL
                      clear hL hkl hk
                      go_wp2
                      go_ret2
                      rw [HG.out]
                      refine ⟨some ⟨ob, 0, none⟩, zs.length, by simp [Sh.shares], HL.out.out.ints (by unfold maxLen; omega), HL.out.below⟩


theorem any_take_succ {zs : List Int} {k : Nat} (hk : k < zs.length) : ((zs.take (k + 1)).any fun x => !Sh.limited x) = ((zs.take k).any (fun x => !Sh.limited x) || !Sh.limited (zs.getD k 0)) := by
  rw [List.take_succ_eq_append_getElem hk, List.any_append, List.getD_eq_getElem?_getD, List.getElem?_eq_getElem hk]
  simp

set_option maxRecDepth 100000 in
set_option maxHeartbeats 2000000 in
theorem refshares_bad (t : Int) (p : Option Addr) (zs : List Int) (cap : Nat) (w : World) (h : Ints w p zs) (hb : 64 < zs.length ∨ Sh.limited t = false ∨ (zs.any fun x => !Sh.limited x) = true) :
    Calls Try.prog 31 #[.int .i64 t, .slice p zs.length cap] w fun e w' => e = .returned (.tuple #[.slice none 0 0, .int .i64 (if 64 < zs.length then 1 else 2)]) ∧ Below w.heap.size w w' := by
  have hl := h.len
  have H := Lib.hid h
  clear h
  by_cases h1 : 64 < zs.length
  · rw [if_pos h1]
    clear hb
    go_enter Try.func31, Try.ntmps31
    go_wp2
    go_ret2
    exact ⟨rfl, Below.refl _ _⟩
  · rw [if_neg h1]
    by_cases h2 : Sh.limited t = false
    · have ht : t < 0 ∨ 1099511627776 < t := by
        apply Classical.byContradiction
        intro hn
        rw [Sh.limited_iff.2 ⟨by omega, by omega⟩] at h2
        cases h2
      clear hb h2
      rcases (show t < 0 ∨ (0 ≤ t ∧ 1099511627776 < t) by omega) with h4 | ⟨h4, h5⟩
      · clear ht
        go_enter Try.func31, Try.ntmps31
        go_wp2
        go_loop [31, 7] (fun i s => ∃ k : Nat, k ≤ zs.length ∧ i = .int .i64 k ∧ s = .bool true) (fun i _ => zs.length - (intOf i).toNat)
        case atStart => exact ⟨0, Nat.zero_le _, rfl, by first | rfl | (simp; done) | (simp; omega)⟩
        case round =>
          obtain ⟨k, hk, rfl, rfl⟩ := hrel
          by_cases hlt : k < zs.length
          · obtain ⟨b, off, x, rfl, hbl, hcell, hx⟩ := H.out.get hlt
            go_wp2
            go_round
            case rel => exact ⟨k + 1, by omega, by go_num, by first | rfl | simp⟩
            case measure => simp [intOf]; omega
          · obtain rfl : k = zs.length := by omega
            clear hlt hk
            go_wp2
            go_ret2
            exact ⟨rfl, Below.refl _ _⟩
      · clear ht
        go_enter Try.func31, Try.ntmps31
        go_wp2
        go_loop [31, 7] (fun i s => ∃ k : Nat, k ≤ zs.length ∧ i = .int .i64 k ∧ s = .bool true) (fun i _ => zs.length - (intOf i).toNat)
        case atStart => exact ⟨0, Nat.zero_le _, rfl, by first | rfl | (simp; done) | (simp; omega)⟩
        case round =>
          obtain ⟨k, hk, rfl, rfl⟩ := hrel
          by_cases hlt : k < zs.length
          · obtain ⟨b, off, x, rfl, hbl, hcell, hx⟩ := H.out.get hlt
            go_wp2
            go_round
            case rel => exact ⟨k + 1, by omega, by go_num, by first | rfl | simp⟩
            case measure => simp [intOf]; omega
          · obtain rfl : k = zs.length := by omega
            clear hlt hk
            go_wp2
            go_ret2
            exact ⟨rfl, Below.refl _ _⟩
    · replace h2 : Sh.limited t = true := by simpa using h2
      have h3 : (zs.any fun x => !Sh.limited x) = true := by
        rcases hb with h | h | h
        · exact absurd h h1
        · rw [h2] at h; cases h
        · exact h
      obtain ⟨t0, t1⟩ := Sh.limited_iff.1 h2
      have H3 := Lib.hid h3
      clear hb h2 h3
      go_enter Try.func31, Try.ntmps31
      go_wp2
      go_loop [31, 7] (fun i s => ∃ (k : Nat) (c : Bool), k ≤ zs.length ∧ i = .int .i64 k ∧ s = .bool c ∧ Hid (((zs.take k).any fun x => !Sh.limited x) = c)) (fun i _ => zs.length - (intOf i).toNat)
      case atStart => exact ⟨0, false, Nat.zero_le _, rfl, by first | rfl | (simp; done) | (simp; omega), rfl⟩
      case round =>
        obtain ⟨k, c, hk, rfl, rfl, hc⟩ := hrel
        by_cases hlt : k < zs.length
        · obtain ⟨b, off, x, rfl, hbl, hcell, hx⟩ := H.out.get hlt
          have hs := Lib.hid (any_take_succ hlt)
          cases c with
          | true =>
            go_wp2
            go_round
            case rel => exact ⟨k + 1, true, by omega, by go_num, by first | rfl | simp, by show _ = _; rw [hs.out, hc.out]; rfl⟩
            case measure => simp [intOf]; omega
          | false =>
            have hd : Hid ((!Sh.limited x) = (decide (x < 0) || decide (1099511627776 < x))) := by
              show (!Sh.limited x) = _
              unfold Sh.limited
              rw [Bool.eq_iff_iff]; first | (simp; done) | (simp; omega)
            go_wp2
            all_goals
              go_round
              case rel => exact ⟨k + 1, _, by omega, by go_num, rfl, by show _ = _; rw [hs.out, hc.out, hx.out, hd.out]; first | rfl | (simp; done) | (simp; omega)⟩
              case measure => simp [intOf]; omega
        · obtain rfl : k = zs.length := by omega
          have hct : c = true := by rw [← hc.out, List.take_length, H3.out]
          subst hct
          clear hlt hk hc
          go_wp2
          go_ret2
          exact ⟨rfl, Below.refl _ _⟩

theorem refshares_any (t : Int) (p : Option Addr) (zs : List Int) (cap : Nat) (w : World) (h : Ints w p zs) :
    Calls Try.prog 31 #[.int .i64 t, .slice p zs.length cap] w (GivesInts w (shList t zs) (shErr t zs)) := by
  by_cases hb : 64 < zs.length ∨ Sh.limited t = false ∨ (zs.any fun x => !Sh.limited x) = true
  · refine (refshares_bad t p zs cap w h hb).mono fun e w' ⟨he, hw⟩ => ?_
    have e1 : shErr t zs = if 64 < zs.length then 1 else 2 := by
      unfold shErr
      by_cases h1 : 64 < zs.length
      · rw [if_pos h1, if_pos h1]
      · rw [if_neg h1, if_neg h1, if_pos (hb.resolve_left h1)]
    have e2 : shList t zs = [] := by unfold shList; rw [if_pos]; rw [e1]; split <;> decide
    rw [e1, e2]
    exact ⟨none, 0, he, Ints.nil _ _, hw⟩
  · have h1 : zs.length ≤ 64 := by omega
    have h2 : Sh.limited t = true := by
      have : ¬ Sh.limited t = false := fun h => hb (.inr (.inl h))
      simpa using this
    have h3 : (zs.any fun x => !Sh.limited x) = false := Bool.eq_false_iff.2 fun h => hb (.inr (.inr h))
    have e1 : shErr t zs = 0 := by unfold shErr; rw [if_neg (by omega), if_neg (by rw [h2, h3]; simp)]
    have e2 : shList t zs = shGood t zs := by unfold shList shGood; rw [e1, if_neg (by simp)]
    rw [e1, e2]
    exact refshares_good t p zs cap w h h1 h2 h3

end Go.Proofs.Ytmgdbbmheiligaa
