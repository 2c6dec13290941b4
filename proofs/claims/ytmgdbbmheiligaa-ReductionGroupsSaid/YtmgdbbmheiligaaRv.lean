/-
  THE WALK over the law ReductionShares.
-/
import Derived.Test.YtmgdbbmheiligaaRg
import Derived.Test.YtmgdbbmheiligaaPx
import Derived.Test.YtmgdbbmheiligaaOa
namespace Go.Proofs.Ytmgdbbmheiligaa
open Go.RowKit

theorem Own.butT {w w' : World} {T : TypeId} {t B : Nat} {v : Value} {xs : List Int} (h : Own w T B v xs) (hB : t < B) (hb : But t w w') : Own w' T B v xs := by
  refine ⟨h.1, ?_⟩
  rcases h.2 with hn | ⟨g, cap, cur, h1, h2, h3, h4⟩
  · exact .inl hn
  · exact .inr ⟨g, cap, cur, h1, h2, (hb.block g (Array.getElem?_eq_some_iff.1 h3).1 (by omega)).trans h3, h4⟩

theorem Own.blk {w : World} {T : TypeId} {B : Nat} {v : Value} {xs : List Int} (h : Own w T B v xs) {k : Nat} (hk : v.ownBlock = some k) : k < w.heap.size := (World.ownsRow.lt h k hk).2

/-- Rows in different blocks. -/
def Apart (u v : Value) : Prop := u.ownBlock = none ∨ v.ownBlock = none ∨ u.ownBlock ≠ v.ownBlock

theorem Apart.l {u v : Value} (h : Apart u v) : u.ownBlock = none ∨ u.ownBlock ≠ v.ownBlock := by
  rcases h with h | h | h
  · exact .inl h
  · by_cases e : u.ownBlock = none
    · exact .inl e
    · exact .inr fun e2 => e (e2.trans h)
  · exact .inr h

theorem Apart.symm {u v : Value} (h : Apart u v) : Apart v u := by
  rcases h with h | h | h
  · exact .inr (.inl h)
  · exact .inl h
  · exact .inr (.inr fun e => h e.symm)

theorem Apart.grow {w : World} {T : TypeId} {B m : Nat} {u v v' : Value} {ys : List Int} (h : Apart u v) (hu : Own w T B u ys) (hv : v'.ownBlock = v.ownBlock ∨ v'.ownBlock = some m) (hm : w.heap.size ≤ m) : Apart u v' := by
  rcases hv with e | e
  · unfold Apart; rw [e]; exact h
  · by_cases hn : u.ownBlock = none
    · exact .inl hn
    · obtain ⟨k, hk⟩ := Option.ne_none_iff_exists'.1 hn
      have := hu.blk hk
      refine .inr (.inr fun e2 => ?_)
      rw [hk, e] at e2
      cases e2
      omega

/-- What was declared, and found: the latter not more, place by place. -/
structure ShBd (xs ys : List Int) : Prop where
  len : ys.length = xs.length
  at_ : ∀ i, i < xs.length → 0 ≤ ys.getD i 0 ∧ ys.getD i 0 ≤ xs.getD i 0 ∧ xs.getD i 0 ≤ 100

theorem ShBd.nil : ShBd [] [] := ⟨rfl, fun i hi => absurd hi (Nat.not_lt_zero i)⟩

theorem ShBd.snoc {xs ys : List Int} {d f : Int} (h : ShBd xs ys) (f0 : 0 ≤ f) (fd : f ≤ d) (d1 : d ≤ 100) : ShBd (xs ++ [d]) (ys ++ [f]) := by
  refine ⟨by rw [List.length_append, List.length_append, h.len]; rfl, fun i hi => ?_⟩
  rw [List.length_append, List.length_singleton] at hi
  have hl := h.len
  by_cases e : i = xs.length
  · subst e
    have e1 : (ys ++ [f]).getD xs.length 0 = f := by rw [← hl]; simp [List.getD_eq_getElem?_getD]
    have e2 : (xs ++ [d]).getD xs.length 0 = d := by simp [List.getD_eq_getElem?_getD]
    rw [e1, e2]
    exact ⟨f0, fd, d1⟩
  · have e1 : (ys ++ [f]).getD i 0 = ys.getD i 0 := by simp [List.getD_eq_getElem?_getD, List.getElem?_append_left (show i < ys.length by omega)]
    have e2 : (xs ++ [d]).getD i 0 = xs.getD i 0 := by simp [List.getD_eq_getElem?_getD, List.getElem?_append_left (show i < xs.length by omega)]
    rw [e1, e2]
    exact h.at_ i (by omega)

theorem ShBd.wk {xs ys : List Int} (h : ShBd xs ys) : wk xs ys xs.length = ys := by
  have hl := h.len
  apply List.ext_getElem
  · rw [wk_len, hl]
  · intro i h1 h2
    have h3 := h.at_ i (by omega)
    have e : ys.getD i 0 = ys[i] := by simp [List.getD_eq_getElem?_getD, h2]
    have e2 : (Go.Proofs.Ytmgdbbmheiligaa.wk xs ys xs.length).getD i 0 = min (xs.getD i 0) (ys.getD i 0) := getD_map_range _ _ _ (by omega)
    have e3 : (Go.Proofs.Ytmgdbbmheiligaa.wk xs ys xs.length).getD i 0 = (Go.Proofs.Ytmgdbbmheiligaa.wk xs ys xs.length)[i] := by rw [List.getD_eq_getElem?_getD, List.getElem?_eq_getElem h1]; rfl
    rw [← e3, e2, ← e]
    omega

theorem ShBd.areas {xs ys : List Int} (h : ShBd xs ys) : areas xs ∧ areas ys := by
  have hl := h.len
  refine ⟨fun x hx => ?_, fun x hx => ?_⟩
  · obtain ⟨i, hi, rfl⟩ := List.getElem_of_mem hx
    have h3 := h.at_ i hi
    have e : xs.getD i 0 = xs[i] := by simp [List.getD_eq_getElem?_getD, hi]
    omega
  · obtain ⟨i, hi, rfl⟩ := List.getElem_of_mem hx
    have h3 := h.at_ i (by omega)
    have e : ys.getD i 0 = ys[i] := by simp [List.getD_eq_getElem?_getD, hi]
    omega

theorem sum_zeros (n : Nat) : Sh.sum (List.replicate n 0) = 0 := by
  induction n with
  | zero => rfl
  | succ n ih => rw [List.replicate_succ]; unfold Sh.sum; rw [ih]; rfl

/-- What is shared out is no more than was found, place by place, and in all what is paid, or nothing. -/
theorem shared {xs ys : List Int} {P : Int} (hb : ShBd xs ys) (h0 : 0 ≤ P) (h1 : P ≤ Sh.sum ys) (hs : Sh.sum ys ≤ 268435456) (he : shErr P ys = 0) :
    (shList P ys).length = ys.length ∧ (∀ i, i < ys.length → 0 ≤ (shList P ys).getD i 0 ∧ (shList P ys).getD i 0 ≤ ys.getD i 0) ∧ (Sh.sum (shList P ys) = P ∨ (Sh.sum ys = 0 ∧ Sh.sum (shList P ys) = 0)) := by
  have ha := hb.areas.2
  by_cases hz : Sh.sum ys = 0
  · have e : shList P ys = List.replicate ys.length 0 := by unfold shList; rw [if_neg (by rw [he]; simp), if_pos hz]
    rw [e]
    refine ⟨by simp, fun i hi => ?_, .inr ⟨hz, ?_⟩⟩
    · have := areas_at ha i
      have e2 : (List.replicate ys.length (0 : Int)).getD i 0 = 0 := by simp [List.getD_eq_getElem?_getD, hi]
      rw [e2]
      omega
    · exact sum_zeros _
  · have hR : Sh.Right P ys := ⟨h0, by omega, fun x hx => by have := ha x hx; omega, hz⟩
    have e : shList P ys = Sh.shares P ys := by unfold shList; rw [if_neg (by rw [he]; simp), if_neg hz]
    rw [e]
    refine ⟨by unfold Sh.shares; simp, fun i hi => ?_, .inl hR.total⟩
    rw [Sh.shares_getD _ _ _ hi]
    exact ⟨(hR.share_bd i).1, hR.share_le' h1 hi⟩

theorem ShBd.small {xs ys : List Int} (h : ShBd xs ys) (h6 : xs.length ≤ 6) : (0 ≤ Sh.sum xs ∧ Sh.sum xs ≤ 600) ∧ 0 ≤ Sh.sum ys ∧ Sh.sum ys ≤ Sh.sum xs := by
  obtain ⟨ha, hb⟩ := h.areas
  have h1 := areas_sum ha (by omega)
  have h2 := areas_sum hb (by have := h.len; omega)
  have h3 := wk_le (a := xs) (b := ys) xs.length (Nat.le_refl _)
  rw [h.wk, List.take_length] at h3
  have h4 := Sh.sum_le_len (l := xs) (c := 100) fun x hx => by
    obtain ⟨i, hi, rfl⟩ := List.getElem_of_mem hx
    have := h.at_ i hi
    have e : xs.getD i 0 = xs[i] := by simp [List.getD_eq_getElem?_getD, hi]
    omega
  omega

structure ShAt (w3 wr : World) (t : Nat) (l : List Int) (va vb : Value) (xs ys : List Int) (q : Nat) : Prop where
  bd : ShBd xs ys
  oa : Own wr 3 w3.heap.size va xs
  ob : Own wr 3 w3.heap.size vb ys
  ap : Apart va vb
  tape : TapeAt wr t l q
  but : But t w3 wr

set_option maxRecDepth 100000 in
set_option maxHeartbeats 4000000 in
theorem reductionShares_walk (a : Option Addr) (len cap : Nat) (z : List Int) (w : World) (w0 : IsRow .i64 w a len cap z) :
    Calls Try.prog 12 #[.slice a len cap] w fun e w' => e = .returned (.bool true) ∧ Below w.heap.size w w' := by
  have HN := Lib.hid (new_any a len cap z w w0)
  clear w0
  generalize (z.take len).take 400 = l at *
  have HD := Lib.hid (fun (W : World) (h : TapeAt W w.heap.size l 0) => steps_any w.heap.size l 0 W h)
  have HR := Lib.hid (fun (W : World) (q : Nat) (h : TapeAt W w.heap.size l q) => range_any w.heap.size l q 1 6 W h (by omega) (by omega) (by omega))
  have HX := Lib.hid (fun (W : World) (q : Nat) (n : Int) (h : TapeAt W w.heap.size l q) (hn : n ≤ 9223372036854775807) => next_any w.heap.size l q n W h hn)
  obtain ⟨i0, hi, hz0, hz1, hz2⟩ := info_parts info_int
  have HI := Lib.hid (And.intro hi (And.intro hz0 (And.intro hz1 hz2)))
  clear hi hz0 hz1 hz2
  go_enter Try.func12, Try.ntmps12
  go_wp2_with (first | (go_at_call 16; refine (HN.out).mono ?_; rintro e w1 ⟨rfl, ht, hb1⟩) | (go_at_call 44; refine (HD.out _ ht).mono ?_; rintro e w2 ⟨p, cp, D, q0, rfl, hO, hRt, ht2, hb2⟩) | (go_at_call 18; refine (HR.out _ _ ht2).mono ?_; rintro e w3 ⟨rfl, ht3, hb3⟩))
  have htl := ht.lt
  have htl3 := ht3.lt
  obtain ⟨n0, n1⟩ := gives_bd l q0 (n := 6) (by omega)
  obtain ⟨M, hM⟩ : ∃ M : Nat, gives l q0 6 = (M : Int) := Int.eq_ofNat_of_zero_le n0
  rw [hM] at n0 n1 ⊢
  obtain ⟨N, hN⟩ : ∃ N : Nat, (N : Int) = 1 + (M : Int) := ⟨1 + M, by omega⟩
  rw [← hN]
  have hN6 : N ≤ 6 := by omega
  have O3 := Lib.hid (hO.butB htl hb3)
  have R := Lib.hid hRt
  have BEL := Lib.hid (hb1.trans ((hb2.trans hb3).below (Nat.le_refl _) hb1.size))
  have HST := Lib.hid (show ShAt w3 w3 w.heap.size l (.slice none 0 0) (.slice none 0 0) [] [] _ from ⟨ShBd.nil, Own.nil _ _ _, Own.nil _ _ _, .inl rfl, ht3, But.refl _ _⟩)
  clear hO hRt ht ht2 ht3 hb1 hb2 hb3 HN HD HR hM hN n0 n1
  go_loopw [5, 6, 7, 8, 9] (fun va vb s u i wr => ∃ (xs ys : List Int) (q : Nat), xs.length ≤ N ∧ i = .int .i64 ((N : Int) - xs.length) ∧ s = .int .i64 (Sh.sum xs) ∧ u = .int .i64 (Sh.sum ys) ∧ ShAt w3 wr w.heap.size l va vb xs ys q) (fun _ _ _ _ i _ => (intOf i).toNat)
  case atStart => exact ⟨[], [], _, Nat.zero_le _, by simp, rfl, rfl, HST.out⟩
  case round =>
    clear HST
    obtain ⟨xs, ys, q, hk, rfl, rfl, rfl, hS⟩ := hrel
    have H := Lib.hid hS
    have hsz := hS.but.size
    obtain ⟨sx, sy⟩ := hS.bd.small (by omega)
    clear hS
    by_cases hkN : xs.length < N
    · obtain ⟨d, ed⟩ : ∃ g, gives l q 100 = g := ⟨_, rfl⟩
      obtain ⟨d0, d1⟩ := gives_bd l q (n := 100) (by omega)
      rw [ed] at d0 d1
      obtain ⟨f, ef⟩ : ∃ g, gives l (taken l q) (d + 1) = g := ⟨_, rfl⟩
      obtain ⟨f0, f1⟩ := gives_bd l (taken l q) (n := d + 1) (by omega)
      rw [ef] at f0 f1
      have N1 := Lib.hid (ed ▸ HX.out wr q 100 H.out.tape (by omega))
      have N2 := Lib.hid (fun (W : World) (h : TapeAt W w.heap.size l (taken l q)) => ef ▸ HX.out W _ (d + 1) h (by omega))
      have hyl := H.out.bd.len
      have HYL := Lib.hid hyl
      clear ed ef HX hyl
      go_wp2_with (first | (go_at_call 17; first | (with_reducible refine Calls.mono N1.out ?_; rintro e w5 ⟨rfl, ht5, hb5⟩) | (with_reducible refine Calls.mono (N2.out _ ht5) ?_; rintro e w6 ⟨rfl, ht6, hb6⟩)) | (at_builtin; first | (refine Own.append2 HI.out.1 HI.out.2.1 HI.out.2.2.1 HI.out.2.2.2 Try.underlying22 rfl (.tmp 35) (.tmp 37) rfl w3.heap.size _ _ _ ((H.out.oa.butT htl3 hb5).butT htl3 hb6) rfl rfl (by have := hb5.size; have := hb6.size; omega) (by omega) ?_; intro v1 w7 hown7 hb7 hsz7 hkeep7 hblk7; have ob6 := (H.out.ob.butT htl3 hb5).butT htl3 hb6; have ob7 := hkeep7 _ _ _ _ ob6 H.out.ap.symm.l; have ap7 := H.out.ap.symm.grow ob6 hblk7 (Nat.le_succ _)) | (refine Own.append2 HI.out.1 HI.out.2.1 HI.out.2.2.1 HI.out.2.2.2 Try.underlying22 rfl (.tmp 39) (.tmp 41) rfl w3.heap.size _ _ _ ob7 rfl rfl (by have := hb5.size; have := hb6.size; omega) (by have := HYL.out; omega) ?_; intro v2 w8 hown8 hb8 hsz8 hkeep8 hblk8; have oa8 := hkeep8 _ _ _ _ hown7 ap7.symm.l; have ap8 := ap7.symm.grow hown7 hblk8 (Nat.le_succ _))))
      have HS := Lib.hid (show ShAt w3 w8 w.heap.size l v1 v2 (xs ++ [d]) (ys ++ [f]) (taken l (taken l q)) from ⟨H.out.bd.snoc f0 (by omega) (by omega), oa8, hown8, ap8, (ht6.belowB hb7 htl3).belowB hb8 htl3, ((H.out.but.trans (hb5.trans hb6)).step hb7).step hb8⟩)
      clear ht5 ht6 hb5 hb6 hb7 hb8 hown7 hown8 hkeep7 hkeep8 hblk7 hblk8 ob6 ob7 ap7 ap8 oa8
      go_roundw
      case rel => exact ⟨xs ++ [d], ys ++ [f], _, by simp; omega, by congr 1; simp; omega, by rw [Sh.sum_snoc], by rw [Sh.sum_snoc], HS.out⟩
      case measure => simp [intOf]; omega
    · obtain ⟨pa, ca, rfl, hA⟩ := H.out.oa.ints
      obtain ⟨pb, cb, rfl, hB⟩ := H.out.ob.ints
      have hP := (O3.out.butB htl H.out.but).pairs_at2
      have hyl := H.out.bd.len
      have hwk := H.out.bd.wk
      obtain ⟨aa, ab⟩ := H.out.bd.areas
      have hx6 : xs.length ≤ 6 := by omega
      have hpb := R.out.paid_bd (d := Sh.sum xs) (f := Sh.sum ys) sx.1 sy.1
      have C1 := Lib.hid (paid_fine R.out (show 0 ≤ Sh.sum xs ∧ Sh.sum xs ≤ 268435456 by omega) (show 0 ≤ Sh.sum ys ∧ Sh.sum ys ≤ 268435456 by omega) p cp wr hP)
      have c2 := fun (W : World) (h : Pairs W p D) (h1 : Ints W pa xs) (h2 : Ints W pb ys) => rgroup_good p D cp pa xs ca pb ys cb W h h1 h2 R.out hyl (by omega) aa ab (by omega)
      rw [hwk] at c2
      have he : shErr (Re.paid D (Sh.sum xs) (Sh.sum ys)) ys = 0 := by
        unfold shErr
        rw [if_neg (by omega), if_neg]
        rintro (h | h)
        · rw [Sh.limited_iff.2 ⟨by omega, by omega⟩] at h; cases h
        · obtain ⟨x, hx, hx2⟩ := List.any_eq_true.1 h
          have := ab x hx
          rw [Sh.limited_iff.2 ⟨by omega, by omega⟩] at hx2
          simp at hx2
      obtain ⟨l1, l2, l3⟩ := shared H.out.bd hpb.1 hpb.2.2 (by omega) he
      have sumB : ∀ k, 0 ≤ Sh.sum ((shList (Re.paid D (Sh.sum xs) (Sh.sum ys)) ys).take k) ∧ Sh.sum ((shList (Re.paid D (Sh.sum xs) (Sh.sum ys)) ys).take k) ≤ 17179869184 := fun k => by
        refine areas_sum (areas_take (fun x hx => ?_) k) (by rw [List.length_take]; omega)
        obtain ⟨i, hi, rfl⟩ := List.getElem_of_mem hx
        have g1 := l2 i (by omega)
        have g2 := areas_at ab i
        rw [List.getD_eq_getElem?_getD, List.getElem?_eq_getElem hi] at g1
        simp only [Option.getD_some] at g1
        omega
      generalize shList (Re.paid D (Sh.sum xs) (Sh.sum ys)) ys = F at *
      generalize Re.paid D (Sh.sum xs) (Sh.sum ys) = P at *
      have C2 := Lib.hid c2
      have L1 := Lib.hid l1
      have L2 := Lib.hid l2
      have L3 := Lib.hid l3
      have SB := Lib.hid sumB
      have AB := Lib.hid ab
      have PP := Lib.hid hP
      have IA := Lib.hid hA
      have IB := Lib.hid hB
      have HYL := Lib.hid hyl
      have hFB : ((F.length : Int) != (xs.length : Int)) = false := by rw [l1, hyl]; simp
      have BEL2 := Lib.hid (BEL.out.trans (H.out.but.below (Nat.le_refl _) BEL.out.size))
      have hFl : F.length ≤ 6 := by omega
      clear c2 l1 l2 l3 sumB aa ab hP hA hB hwk hyl he hpb H hk O3 BEL HX
      go_wp2_with (first | (go_at_call 48; refine (C1.out).mono ?_; rintro e w5 ⟨rfl, hb5⟩) | (go_at_call 52; refine (C2.out _ (PP.out.below hb5) (IA.out.below hb5) (IB.out.below hb5)).mono ?_; rintro e w6 ⟨p6, c6, rfl, hI6, hb6⟩))
      have QB := Lib.hid ((IB.out.below hb5).below hb6)
      have QF := Lib.hid hI6
      have BEL3 := Lib.hid (bstep (Nat.le_refl _) (bstep (Nat.le_refl _) BEL2.out hb5) hb6)
      clear hI6 hb5 hb6 C1 C2 PP IA IB BEL2
      obtain ⟨wz, rfl⟩ : ∃ wz : World, wz = w6 := ⟨_, rfl⟩
      go_loop [16, 78] (fun s i => ∃ k : Nat, k ≤ F.length ∧ i = .int .i64 k ∧ s = .int .i64 (Sh.sum (F.take k))) (fun _ i => F.length - (intOf i).toNat)
      case atStart => exact ⟨0, Nat.zero_le _, rfl, by simp [Sh.sum]⟩
      case round =>
        obtain ⟨k, hk, rfl, rfl⟩ := hrel
        have s1 := SB.out k
        by_cases hlt : k < F.length
        · have hlty : k < ys.length := by rw [← L1.out]; exact hlt
          obtain ⟨g, off, x, rfl, hgl, hcx, hx⟩ := QF.out.get hlt
          obtain ⟨g', off', y, rfl, hgl', hcy, hy⟩ := QB.out.get hlty
          obtain ⟨e0, e1⟩ := L2.out k hlty
          rw [hx.out] at e0
          rw [hx.out, hy.out] at e1
          have ay := areas_at AB.out k
          rw [hy.out] at ay
          have hst := Lib.hid (sum_take_succ (l := F) (k := k) hlt)
          have hk0 : (0 : Int) ≤ (k : Int) := Int.natCast_nonneg _
          have hk1 : (k : Int) < (F.length : Int) := by omega
          have hk2 : (k : Int) < (ys.length : Int) := by omega
          clear hlty
          go_wp2
          go_round
          case rel => exact ⟨k + 1, by omega, by go_num, by rw [hst.out, hx.out]⟩
          case measure => simp [intOf]; omega
        · obtain rfl : k = F.length := by omega
          rw [List.take_length]
          clear hlt hk s1
          rcases L3.out with e | ⟨e, e2⟩
          · rw [e]
            have hB : (P == P) = true := by simp
            go_wp2_with (first | (go_at_call 43; refine (awake29_any _).mono ?_; rintro e w9 ⟨rfl, hb9⟩))
            go_ret
            exact ⟨rfl, bstep (Nat.le_refl _) BEL3.out hb9⟩
          · rw [e2]
            have hB : (Sh.sum ys == 0) = true := by rw [e]; rfl
            clear e e2
            by_cases hP0 : P = 0
            · have hB2 : ((0 : Int) == P) = true := by rw [hP0]; rfl
              clear hP0
              go_wp2_with (first | (go_at_call 43; refine (awake29_any _).mono ?_; rintro e w9 ⟨rfl, hb9⟩))
              go_ret
              exact ⟨rfl, bstep (Nat.le_refl _) BEL3.out hb9⟩
            · have hB2 : ((0 : Int) == P) = false := beq_eq_false_iff_ne.2 fun e => hP0 e.symm
              clear hP0
              go_wp2_with (first | (go_at_call 43; refine (awake29_any _).mono ?_; rintro e w9 ⟨rfl, hb9⟩))
              go_ret
              exact ⟨rfl, bstep (Nat.le_refl _) BEL3.out hb9⟩

end Go.Proofs.Ytmgdbbmheiligaa
