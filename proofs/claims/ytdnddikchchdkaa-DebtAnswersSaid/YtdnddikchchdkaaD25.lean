/-
  THE WALKS over keep.Tape.One and landaidsecond.Account: a right account, in blocks above the tape.
-/
import Derived.Test.YtdnddikchchdkaaD8
import Derived.Test.YtdnddikchchdkaaD20
import Derived.Test.YtdnddikchchdkaaD23
namespace Go.Proofs.Ytdnddikchchdkaa
open Go.RowKit

theorem one_any (t : Nat) (l : List Int) (k : Nat) (n : Int) (w : World) (h : TapeAt w t l k) (h1 : 1 ≤ n) (hn : n ≤ 9223372036854775807) :
    Calls Try.prog 61 #[.pointer (some ⟨t, 0, none⟩), .int .i64 n] w fun e w' => e = .returned (.bool (gives l k n == n - 1)) ∧ TapeAt w' t l (taken l k) ∧ But t w w' := by
  have hn1 := next_any t l k n w h hn
  obtain ⟨g1, g2⟩ := gives_bd l k h1
  have HN := Lib.hid hn1
  clear hn1 h
  generalize gives l k n = g at *
  go_enter Try.func61, Try.ntmps61
  go_wp2_with (first | (go_at_call 11; refine (HN.out).mono ?_; rintro e w1 ⟨rfl, ht, hb⟩))
  go_ret
  exact ⟨rfl, ht, hb⟩

theorem Recs.but {α : Type} {S : Shape α} {w w' : World} {t : Nat} {p : Option Addr} {L : List α} (h : Recs S w p L) (hb : But t w w') (hp : ∀ a, p = some a → a.block ≠ t) : Recs S w' p L := by
  refine ⟨h.1, ?_⟩
  rcases h.2 with e | ⟨b, off, e, hl, hc⟩
  · exact .inl e
  · exact .inr ⟨b, off, e, Nat.lt_of_lt_of_le hl hb.size, fun n u hu => (hb.cell (p := ⟨b, off + n, none⟩) hl (hp ⟨b, off, none⟩ e)).trans (hc n u hu)⟩

theorem But.stp {t : Nat} {a b c : World} (h : But t a b) (hb : Below a.heap.size b c) : But t a c :=
  ⟨hb.os.trans h.os, hb.tape.trans h.tape, hb.output.trans h.output, Nat.le_trans h.size hb.size, fun i hi hn => (hb.block i hi).trans (h.block i hi hn)⟩

theorem But.drew {t : Nat} {a b : World} (h : But t a b) : But t a b.drew := h.stp ((Below.refl _ _).drew)

theorem BoxA.but {w w' : World} {b t : Nat} {farm : Int} {p : Option Addr} {n c : Nat} {next : Int} (h : BoxA w b farm p n c next) (hb : But t w w') (hne : b ≠ t) : BoxA w' b farm p n c next := h.blk (hb.block b h.lt hne) hb.size

/-- Debts stay where other blocks are written. -/
theorem Recs.set {α : Type} {S : Shape α} {w : World} {p : Option Addr} {L : List α} (h : Recs S w p L) (b i : Nat) (u : Value) (hp : ∀ a, p = some a → a.block ≠ b) : Recs S (w.setCell ⟨b, i, none⟩ u) p L :=
  h.but (t := b) ⟨rfl, rfl, rfl, by simp [World.setCell], fun k _ hk => by have e : ¬ b = k := fun e => hk e.symm; simp [World.setCell, Array.getElem?_modify, e]⟩ hp

/-- The state behind rounds of 'Account'. -/
structure AccSt (w wr : World) (t : Nat) (l : List Int) (bx rx : Nat) (farm next : Int) (p : Option Addr) (c : Nat) (L : List De.Dbt) (q : Nat) : Prop where
  right : De.Right farm L next
  recs : Debts wr p L
  nil : p = none → c = 0
  new : ∀ x, p = some x → bx < x.block
  box : BoxA wr bx farm p L.length c next
  res : BoxA wr rx 0 none 0 0 0
  tape : TapeAt wr t l q
  but : But t w wr
  t_lt : t < w.heap.size
  rx_ge : w.heap.size ≤ rx
  bx_gt : rx < bx

theorem AccSt.tape_ {w wr w' : World} {t : Nat} {l : List Int} {bx rx : Nat} {farm next : Int} {p : Option Addr} {c : Nat} {L : List De.Dbt} {q q' : Nat} (h : AccSt w wr t l bx rx farm next p c L q) (ht : TapeAt w' t l q') (hb : But t wr w') : AccSt w w' t l bx rx farm next p c L q' := by
  have := h.t_lt; have := h.rx_ge; have := h.bx_gt
  exact ⟨h.right, h.recs.but hb fun x e => by have := h.new x e; omega, h.nil, h.new, h.box.but hb (by omega), h.res.but hb (by omega), ht, h.but.trans hb, h.t_lt, h.rx_ge, h.bx_gt⟩

theorem AccSt.drew {w wr : World} {t : Nat} {l : List Int} {bx rx : Nat} {farm next : Int} {p : Option Addr} {c : Nat} {L : List De.Dbt} {q : Nat} (h : AccSt w wr t l bx rx farm next p c L q) : AccSt w wr.drew t l bx rx farm next p c L q :=
  h.tape_ (h.tape.below ((Below.refl _ _).drew)) (But.refl _ _).drew

theorem AccSt.lies {w wr w' : World} {t : Nat} {l : List Int} {bx rx : Nat} {farm next next' : Int} {p p' : Option Addr} {c c' : Nat} {L L' : List De.Dbt} {q : Nat} (h : AccSt w wr t l bx rx farm next p c L q) (hl : Lies wr w' p p' c' L') (hR : De.Right farm L' next') :
    AccSt w (((w'.setCell ⟨bx, 0, none⟩ (.int .i64 farm)).setCell ⟨bx, 1, none⟩ (.slice p' L'.length c')).setCell ⟨bx, 2, none⟩ (.int .i64 next')) t l bx rx farm next' p' c' L' q := by
  have h1 := h.t_lt; have h2 := h.rx_ge; have h3 := h.bx_gt
  have hnew : ∀ x, p' = some x → bx < x.block := fun x e => by
    rcases hl.new with e2 | hn
    · exact h.new x (e2 ▸ e)
    · have := hn x e; have := h.box.lt; omega
  have hne : ∀ x, p' = some x → x.block ≠ bx := fun x e => by have := hnew x e; omega
  have hB : Below wr.heap.size wr w' := hl.below
  have hbx := (h.box.below hB h.box.lt)
  have hbut : But t w (((w'.setCell ⟨bx, 0, none⟩ (.int .i64 farm)).setCell ⟨bx, 1, none⟩ (.slice p' L'.length c')).setCell ⟨bx, 2, none⟩ (.int .i64 next')) :=
    (h.but.trans (But.of_below hB)).stp (bsetTo (Below.refl _ _) bx (by omega) _ _ _)
  refine ⟨hR, ((hl.recs.set bx 0 _ hne).set bx 1 _ hne).set bx 2 _ hne, hl.nil, hnew, ?_, ?_, ?_, hbut, h1, h2, h3⟩
  · obtain ⟨a0, a1, a2, f0, f1, f2, lt⟩ := hbx
    exact ⟨by go_simp, by go_simp, by go_simp, by go_simp, by go_simp, by go_simp, by simpa [World.setCell] using lt⟩
  · exact (((h.res.below hB h.res.lt).other (by omega) _).other (by omega) _).other (by omega) _
  · have hB2 : Below bx w' (((w'.setCell ⟨bx, 0, none⟩ (.int .i64 farm)).setCell ⟨bx, 1, none⟩ (.slice p' L'.length c')).setCell ⟨bx, 2, none⟩ (.int .i64 next')) := bsetTo (Below.refl _ _) bx (Nat.le_refl _) _ _ _
    exact (h.tape.below hB).belowB hB2 (by omega)

theorem De.Right.cnt {farm : Int} {L : List De.Dbt} {next : Int} (h : De.Right farm L next) (of due amount : Int) : De.Right farm (De.cList farm L next of due amount) (De.cNext farm L next of due amount) := by
  unfold De.cList De.cNext
  by_cases he : De.cErr farm L next of due amount = 0
  · rw [if_neg (fun k => k he), if_neg (fun k => k he)]
    rcases c_cases farm L next of due amount with ⟨c, e⟩ | ⟨hR, c, ⟨d1, e⟩ | ⟨d1, ⟨d2, e⟩ | ⟨d2, ⟨d3, e⟩ | ⟨d3, d4, e⟩ | ⟨d3, d4, d5, e⟩ | ⟨d3, d4, d5, ⟨d6, e⟩ | ⟨d6, ⟨d7, e⟩ | ⟨d7, e⟩⟩⟩⟩⟩⟩ <;> try (exfalso; omega)
    exact h.charge (De.decB_iff.1 d1) (De.dayB_iff.1 d2) ⟨d3, d5⟩ (fun e => by simp [e] at d6) (fun e => by simp [e] at d7)
  · rw [if_pos he, if_pos he]; exact h

theorem De.Right.off {farm : Int} {L L' : List De.Dbt} {next day amount r : Int} (h : De.Right farm L next) (ho : De.Off day L amount L' r) (h0 : 0 ≤ amount) : De.Right farm L' next := by
  obtain ⟨-, -, -, -, h5, h6⟩ := ho.keeps h.fine h0
  exact h.under h6 h5

theorem De.Right.offs {farm : Int} {L L' : List De.Dbt} {next day amount r : Int} (h : De.Right farm L next) (ho : if oErr farm L next day amount = 0 then De.Off day L amount L' r else L' = L ∧ r = 0) : De.Right farm L' next := by
  split at ho
  · rename_i he
    rcases o_cases farm L next day amount with ⟨c, e⟩ | ⟨hR, c, ⟨d1, e⟩ | ⟨d1, ⟨d2, e⟩ | ⟨d2, d3, e⟩ | ⟨d2, d3, e⟩⟩⟩ <;> try (exfalso; omega)
    exact h.off ho d2
  · rw [ho.1]; exact h

/-- The end of 'Account'. -/
def AccGive (w : World) (t : Nat) (l : List Int) (e : Ending) (w' : World) : Prop :=
  ∃ farm p L c next q, e = .returned (accV farm p L.length c next) ∧ De.Right farm L next ∧ Debts w' p L ∧ (p = none → c = 0) ∧ (∀ x, p = some x → w.heap.size ≤ x.block) ∧ TapeAt w' t l q ∧ But t w w'

theorem De.Right.new {farm : Int} (h : 1 ≤ farm ∧ farm ≤ 60) : De.Right farm [] 1 := ⟨h, by simp, by omega, by simp [De.Asc], by simp, by simp [De.total]⟩


set_option maxRecDepth 100000 in
set_option maxHeartbeats 8000000 in
theorem account39_any (t : Nat) (l : List Int) (a : Nat) (w : World) (h : TapeAt w t l a) :
    Calls Try.prog 27 #[.pointer (some ⟨t, 0, none⟩)] w (AccGive w t l) := by
  have hlt := h.lt
  obtain ⟨gf, ef⟩ : ∃ g, gives l a (5 - 1 + 1) = g := ⟨_, rfl⟩
  obtain ⟨f1, f2⟩ := gives_bd l a (n := 5 - 1 + 1) (by omega)
  rw [ef] at f1 f2
  obtain ⟨qa, ea⟩ : ∃ g, taken l a = g := ⟨_, rfl⟩
  obtain ⟨gn, en⟩ : ∃ g, gives l qa 6 = g := ⟨_, rfl⟩
  obtain ⟨n1, n2⟩ := gives_bd l qa (n := 6) (by omega)
  rw [en] at n1 n2
  obtain ⟨qb, eb⟩ : ∃ g, taken l qa = g := ⟨_, rfl⟩
  obtain ⟨N, rfl⟩ : ∃ N : Nat, gn = (N : Int) := Int.eq_ofNat_of_zero_le n1
  have T1 := Lib.hid (fun (W : World) (h : TapeAt W t l a) => ea ▸ ef ▸ range_any t l a 1 5 W h (by omega) (by omega) (by omega))
  have T2 := Lib.hid (fun (W : World) (h : TapeAt W t l qa) => eb ▸ en ▸ next_any t l qa 6 W h (by omega))
  have NW := Lib.hid (fun (W : World) => refnew39_any (1 + gf) W)
  rw [show newFarm (1 + gf) = 1 + gf by unfold newFarm; rw [if_neg (by omega)], show newNext (1 + gf) = 1 by unfold newNext; rw [if_neg (by omega)], show newErr (1 + gf) = 0 by unfold newErr; rw [if_neg (by omega)]] at NW
  have hb0 : Below w.heap.size w (w.alloc (Obj.cells #[.int .i64 0, .slice none 0 0, .int .i64 0] 42)) := (Below.refl _ _).alloc (Nat.le_refl _) _
  have B0 := Lib.hid hb0
  have H0 := Lib.hid (h.below hb0)
  have X0 := Lib.hid (BoxA.new w 0 none 0 0 0 42)
  unfold accV at NW
  clear h ef ea en eb hb0 n1
  go_enter Try.func27, Try.ntmps27
  go_wp2_with (first | (go_at_call 12; refine Calls.mono (T1.out _ H0.out) ?_; rintro e w1 ⟨rfl, ht1, hb1⟩) | (go_at_call 45; refine Calls.mono (NW.out _) ?_; rintro e w2 ⟨rfl, hb2⟩) | (go_at_call 11; refine Calls.mono (T2.out _ ((ht1.below hb2).below ((Below.refl _ _).alloc (Nat.le_refl _) _))) ?_; rintro e w3 ⟨rfl, ht3, hb3⟩))
  have hs1 := hb1.size
  have hs2 := hb2.size
  simp only [World.size_alloc] at hs1
  have HST : AccSt w w3 t l w2.heap.size w.heap.size (1 + gf) 1 none 0 [] qb :=
    ⟨De.Right.new (by omega), Recs.nil _ _, (fun _ => rfl), (fun x e => by cases e), (BoxA.new w2 (1 + gf) none 0 0 1 42).but hb3 (by omega), ((((X0.out.but hb1 (by omega)).below hb2 (by omega)).below ((Below.refl _ _).alloc (Nat.le_refl _) _) (by omega)).but hb3 (by omega)), ht3, ((((But.of_below B0.out).trans hb1).trans (But.of_below hb2)).trans (But.of_below ((Below.refl _ _).alloc (Nat.le_refl _) _))).trans hb3, hlt, Nat.le_refl _, by omega⟩
  have ST := Lib.hid HST
  clear HST ht1 hb1 hb2 ht3 hb3 T1 T2 NW B0 H0 X0
  have hbx : w.heap.size < w2.heap.size := by omega
  clear hs1 hs2
  generalize w2.heap.size = bx at *
  go_loopw [5] (fun c wr => ∃ (k : Nat) (p : Option Addr) (ca : Nat) (L : List De.Dbt) (next : Int) (q : Nat), k ≤ N ∧ c = .int .i64 ((N : Int) - k) ∧ AccSt w wr t l bx w.heap.size (1 + gf) next p ca L q) (fun c _ => (intOf c).toNat)
  case atStart => exact ⟨0, _, _, _, _, _, Nat.zero_le _, by simp, ST.out⟩
  case round =>
    clear ST
    obtain ⟨k, p, ca, L, next, q, hk, rfl, hS⟩ := hrel
    obtain ⟨q1, e1⟩ : ∃ x, taken l q = x := ⟨_, rfl⟩
    obtain ⟨q2, e2⟩ : ∃ x, taken l q1 = x := ⟨_, rfl⟩
    obtain ⟨q3, e3⟩ : ∃ x, taken l q2 = x := ⟨_, rfl⟩
    obtain ⟨q4, e4⟩ : ∃ x, taken l q3 = x := ⟨_, rfl⟩
    obtain ⟨q5, e5⟩ : ∃ x, taken l q4 = x := ⟨_, rfl⟩
    obtain ⟨q6, e6⟩ : ∃ x, taken l q5 = x := ⟨_, rfl⟩
    obtain ⟨g1, k1⟩ : ∃ x, gives l q (900 - 1 + 1) = x := ⟨_, rfl⟩
    obtain ⟨g2, k2⟩ : ∃ x, gives l q1 20 = x := ⟨_, rfl⟩
    obtain ⟨g3, k3⟩ : ∃ x, gives l q2 (300 - 1 + 1) = x := ⟨_, rfl⟩
    obtain ⟨bo, k4⟩ : ∃ x, (gives l q3 3 == 3 - 1) = x := ⟨_, rfl⟩
    obtain ⟨g5, k5⟩ : ∃ x, gives l q4 20 = x := ⟨_, rfl⟩
    obtain ⟨g6, k6⟩ : ∃ x, gives l q5 200 = x := ⟨_, rfl⟩
    have b1 := gives_bd l q (n := 900 - 1 + 1) (by omega)
    have b3 := gives_bd l q2 (n := 300 - 1 + 1) (by omega)
    rw [k1] at b1
    rw [k3] at b3
    obtain ⟨b11, b12⟩ := b1
    obtain ⟨b31, b32⟩ := b3
    have M1 := Lib.hid (fun (W : World) (h : TapeAt W t l q) => e1 ▸ k1 ▸ range_any t l q 1 900 W h (by omega) (by omega) (by omega))
    have M2 := Lib.hid (fun (W : World) (h : TapeAt W t l q1) => e2 ▸ k2 ▸ next_any t l q1 20 W h (by omega))
    have M3 := Lib.hid (fun (W : World) (h : TapeAt W t l q2) => e3 ▸ k3 ▸ range_any t l q2 1 300 W h (by omega) (by omega) (by omega))
    have M4 := Lib.hid (fun (W : World) (h : TapeAt W t l q3) => e4 ▸ k4 ▸ one_any t l q3 3 W h (by omega) (by omega))
    have M5 := Lib.hid (fun (W : World) (h : TapeAt W t l q4) => e5 ▸ k5 ▸ next_any t l q4 20 W h (by omega))
    have M6 := Lib.hid (fun (W : World) (h : TapeAt W t l q5) => e6 ▸ k6 ▸ next_any t l q5 200 W h (by omega))
    have hl40 := hS.right.len
    have MC := Lib.hid (fun (W : World) (h : Debts W p L) => refcharge39_any (1 + gf) next p L ca (1 + g1) g2 (1 + g3) W h hS.nil (by omega))
    have hR1 := hS.right.cnt (1 + g1) g2 (1 + g3)
    obtain ⟨L1, eL⟩ : ∃ x, De.cList (1 + gf) L next (1 + g1) g2 (1 + g3) = x := ⟨_, rfl⟩
    obtain ⟨nx, eN⟩ : ∃ x, De.cNext (1 + gf) L next (1 + g1) g2 (1 + g3) = x := ⟨_, rfl⟩
    rw [eL, eN] at hR1 MC
    have MO := Lib.hid (fun (W : World) (p' : Option Addr) (ca' : Nat) (h : AccSt w W t l bx w.heap.size (1 + gf) nx p' ca' L1 q6) => refoffset39_any (1 + gf) nx p' L1 ca' g5 g6 W h.recs h.nil (by have := h.right.len; omega))
    have HR := Lib.hid hR1
    have H := Lib.hid hS
    have HD := Lib.hid hS.drew
    obtain ⟨c0, c1, c2, c3, c4, c5, c6⟩ := hS.box
    clear hS e1 e2 e3 e4 e5 e6 k1 k2 k3 k4 k5 k6 eL eN hR1
    unfold accV at MC MO
    by_cases hkN : k < N
    · have hkI : (0 : Int) < (N : Int) - k := by omega
      cases bo
      · go_wp2_with fail
        go_region_with (first | (go_at_call 12; refine Calls.mono (M1.out _ HD.out.tape) ?_; clear M1; rintro e wa ⟨rfl, hta, hba⟩; have SA := Lib.hid (HD.out.tape_ hta hba); clear hta hba; obtain ⟨a0, a1, a2, a3, a4, a5, a6⟩ := SA.out.box) | (go_at_call 11; refine Calls.mono (M2.out _ SA.out.tape) ?_; rintro e wb ⟨rfl, htb, hbb⟩; have SB := Lib.hid (SA.out.tape_ htb hbb); clear htb hbb; obtain ⟨d0, d1, d2, d3, d4, d5, d6⟩ := SB.out.box) | (go_at_call 12; refine Calls.mono (M3.out _ SB.out.tape) ?_; rintro e wc ⟨rfl, htc, hbc⟩; have SC := Lib.hid (SB.out.tape_ htc hbc); clear htc hbc; obtain ⟨h0, h1, h2, h3, h4, h5, h6⟩ := SC.out.box) | (go_at_call 38; refine Calls.mono (MC.out _ SC.out.recs) ?_; rintro e wd ⟨p', ca', rfl, hl⟩; have SE := Lib.hid (SC.out.lies hl HR.out); have BE := Lib.hid (SC.out.box.below hl.below SC.out.box.lt); clear hl; obtain ⟨i0, i1, i2, i3, i4, i5, i6⟩ := BE.out; unfold accV))
        all_goals
          go_wp2_with (first | (go_at_call 61; refine Calls.mono (M4.out _ SE.out.tape) ?_; rintro e we ⟨rfl, hte, hbe⟩; have SF := Lib.hid (SE.out.tape_ hte hbe); clear hte hbe))
          go_roundw
          case rel => exact ⟨k + 1, _, _, _, _, _, by omega, by congr 1; omega, SF.out⟩
          case measure => simp [intOf]; omega
      · go_wp2_with fail
        go_region_with (first | (go_at_call 12; refine Calls.mono (M1.out _ HD.out.tape) ?_; clear M1; rintro e wa ⟨rfl, hta, hba⟩; have SA := Lib.hid (HD.out.tape_ hta hba); clear hta hba; obtain ⟨a0, a1, a2, a3, a4, a5, a6⟩ := SA.out.box) | (go_at_call 11; refine Calls.mono (M2.out _ SA.out.tape) ?_; rintro e wb ⟨rfl, htb, hbb⟩; have SB := Lib.hid (SA.out.tape_ htb hbb); clear htb hbb; obtain ⟨d0, d1, d2, d3, d4, d5, d6⟩ := SB.out.box) | (go_at_call 12; refine Calls.mono (M3.out _ SB.out.tape) ?_; rintro e wc ⟨rfl, htc, hbc⟩; have SC := Lib.hid (SB.out.tape_ htc hbc); clear htc hbc; obtain ⟨h0, h1, h2, h3, h4, h5, h6⟩ := SC.out.box) | (go_at_call 38; refine Calls.mono (MC.out _ SC.out.recs) ?_; rintro e wd ⟨p', ca', rfl, hl⟩; have SE := Lib.hid (SC.out.lies hl HR.out); have BE := Lib.hid (SC.out.box.below hl.below SC.out.box.lt); clear hl; obtain ⟨i0, i1, i2, i3, i4, i5, i6⟩ := BE.out; unfold accV))
        all_goals
          go_wp2_with (first | (go_at_call 61; refine Calls.mono (M4.out _ SE.out.tape) ?_; rintro e we ⟨rfl, hte, hbe⟩; have SF := Lib.hid (SE.out.tape_ hte hbe).drew; have BF := Lib.hid ((SE.out.tape_ hte hbe).box); clear hte hbe; obtain ⟨j0, j1, j2, j3, j4, j5, j6⟩ := BF.out))
          go_region_with (first | (go_at_call 11; refine Calls.mono (M5.out _ SF.out.tape) ?_; clear M5; rintro e wf ⟨rfl, htf, hbf⟩; have SG := Lib.hid (SF.out.tape_ htf hbf); clear htf hbf; obtain ⟨m0, m1, m2, m3, m4, m5, m6⟩ := SG.out.box) | (go_at_call 11; refine Calls.mono (M6.out _ SG.out.tape) ?_; rintro e wg ⟨rfl, htg, hbg⟩; have SH := Lib.hid (SG.out.tape_ htg hbg); clear htg hbg; obtain ⟨s0, s1, s2, s3, s4, s5, s6⟩ := SH.out.box) | (go_at_call 39; refine Calls.mono (MO.out _ _ _ SH.out) ?_; rintro e wh ⟨p2, ca2, L2, r2, rfl, ho, hl⟩; have SI := Lib.hid (SH.out.lies hl (HR.out.offs ho)); have BI := Lib.hid (SH.out.box.below hl.below SH.out.box.lt); clear hl ho; obtain ⟨t0, t1, t2, t3, t4, t5, t6⟩ := BI.out; unfold accV))
          all_goals
            go_wp2
            go_roundw
            case rel => exact ⟨k + 1, _, _, _, _, _, by omega, by congr 1; omega, SI.out⟩
            case measure => simp [intOf]; omega
    · obtain rfl : k = N := by omega
      obtain ⟨r0, r1, r2, r3, r4, r5, r6⟩ := H.out.res
      have hne : ∀ x, p = some x → x.block ≠ w.heap.size := fun x e => by have := H.out.new x e; omega
      go_wp2
      refine bodyPost_ret (v := accV (1 + gf) p L.length ca next) (by simp [results, Try.results27, go_sem, r0, r1, r2, accV]) rfl ⟨1 + gf, p, L, ca, next, q, rfl, H.out.right, ((H.out.recs.set _ 0 _ hne).set _ 1 _ hne).set _ 2 _ hne, H.out.nil, fun x e => by have := H.out.new x e; omega, H.out.tape.belowB (bsetTo (Below.refl w.heap.size _) w.heap.size (Nat.le_refl _) _ _ _) hlt, H.out.but.stp (bsetTo (Below.refl _ _) w.heap.size (Nat.le_refl _) _ _ _)⟩

end Go.Proofs.Ytdnddikchchdkaa
