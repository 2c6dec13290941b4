/-
  THE WALK over slices.DeleteFunc at debts, with the predicate 'nothing is left', of a row of the call's own.
-/
import Derived.Test.YtdnddikchchdkaaD9
namespace Go.Proofs.Ytdnddikchchdkaa
open Go.RowKit

def DelGive2 (w : World) (T : TypeId) (B : Nat) (p : Option Addr) (cap : Nat) (L : List De.Dbt) (e : Ending) (w' : World) : Prop :=
  e = .returned (.slice p (De.nz L).length cap) ∧ OwnR SD w' T B (.slice p (De.nz L).length cap) (De.nz L) ∧ Below B w w' ∧ ∀ k, k < w.heap.size → (Value.slice p (De.nz L).length cap).ownBlock ≠ some k → w'.heap[k]? = w.heap[k]?

theorem far_below {w w1 w2 : World} {P : Nat → Prop} (h : ∀ k, k < w.heap.size → P k → w1.heap[k]? = w.heap[k]?) (hs : w.heap.size ≤ w1.heap.size) (hb : Below w1.heap.size w1 w2) : ∀ k, k < w.heap.size → P k → w2.heap[k]? = w.heap[k]? := fun k hk hp =>
  (hb.block k (by omega)).trans (h k hk hp)

theorem far_set {w w1 : World} {P : Nat → Prop} (h : ∀ k, k < w.heap.size → P k → w1.heap[k]? = w.heap[k]?) {g : Nat} (hg : ∀ k, P k → k ≠ g) (i : Nat) (u : Value) : ∀ k, k < w.heap.size → P k → (w1.setCell ⟨g, i, none⟩ u).heap[k]? = w.heap[k]? := fun k hk hp => by
  have hne : g ≠ k := fun e => hg k hp e.symm
  rw [← h k hk hp]
  simp [World.setCell, Array.getElem?_modify, hne]

set_option maxRecDepth 100000 in
set_option maxHeartbeats 4000000 in
theorem delz_any (B : Nat) (p : Option Addr) (L : List De.Dbt) (cap : Nat) (w : World) (hO : OwnR SD w 49 B (.slice p L.length cap) L) (hB : B ≤ w.heap.size) :
    Calls Try.prog 66 #[.slice p L.length cap, .func (.func 67) #[] #[]] w (DelGive2 w 49 B p cap L) := by
  obtain ⟨pp, cc, ep, hnil, hpos, hle, hcm, hrec⟩ := hO.cut rfl
  cases ep
  have hn := hrec.len
  have HI := Lib.hid (idxz_any p L cap w hrec)
  have HO := Lib.hid hO
  clear hO hrec hnil hpos
  go_enter Try.func66, Try.ntmps66
  go_wp2_with fail
  go_at_call 75
  refine Calls.mono HI.out ?_
  rintro e w1 ⟨i, rfl, hz, hb1⟩
  rcases hz with ⟨rfl, hall⟩ | ⟨k, rfl, hk, hz, hall⟩
  · have hnz := Lib.hid (nz_all hall)
    clear hall
    go_wp2
    go_ret
    unfold DelGive2
    rw [hnz.out]
    exact ⟨rfl, HO.out.below hb1, hb1.mono hB, fun k hk _ => hb1.block k hk⟩
  · have HD0 := Lib.hid (Del.start hk hz hall)
    have hne1 : ((k : Int) == -1) = false := beq_eq_false_iff_ne.2 (by omega)
    have hO1 := HO.out.below hb1
    obtain ⟨g, e, -, hBg, -, -, -, -⟩ := SD_put hO1 hk
    subst e
    have HO1 := Lib.hid hO1
    have HB1 := Lib.hid (hb1.mono hB)
    have HF1 := Lib.hid (fun (j : Nat) (hj : j < w.heap.size) (_ : j ≠ g) => hb1.block j hj)
    have hs1 := hb1.size
    clear hO1 hz hall hb1 HI HO
    go_wp2
    go_loopw [5, 6] (fun a b wr => ∃ (i j : Nat) (M : List De.Dbt), a = .int .i64 i ∧ b = .int .i64 j ∧ Del L M i j ∧ OwnR SD wr 49 B (.slice (some ⟨g, 0, none⟩) L.length cap) M ∧ Below B w wr ∧ w.heap.size ≤ wr.heap.size ∧ ∀ k, k < w.heap.size → k ≠ g → wr.heap[k]? = w.heap[k]?) (fun _ b _ => L.length - (intOf b).toNat)
    case atStart => exact ⟨k, k + 1, L, rfl, by go_num, HD0.out, HO1.out, HB1.out, hs1, HF1.out⟩
    case round =>
      obtain ⟨i, j, M, rfl, rfl, hD, hO, hb, hsz, hf⟩ := hrel
      have DD := Lib.hid hD
      have OO := Lib.hid hO
      have BB := Lib.hid hb
      have FF := Lib.hid hf
      have hij := hD.lt
      have hjl := hD.jl
      have hlen := hD.len
      have hLM := Lib.hid hlen
      clear hD hO hb hf
      by_cases hlt : j < L.length
      · obtain ⟨g', e, -, -, hgl, hC, -, -⟩ := SD_put OO.out (show j < M.length by omega)
        cases e
        rw [DD.out.high j (Nat.le_refl _)] at hC
        obtain ⟨d, hd⟩ : ∃ d, De.g L j = d := ⟨_, rfl⟩
        rw [hd] at hC
        have Dd := Lib.hid hd
        obtain ⟨c0, c1, c2, c3, c4⟩ := hC
        have hk0 : (0 : Int) ≤ (j : Int) := Int.natCast_nonneg _
        have hk1 : (j : Int) < (L.length : Int) := by omega
        have hi0 : (0 : Int) ≤ (i : Int) := Int.natCast_nonneg _
        have hi1 : (i : Int) < (L.length : Int) := by omega
        have OA := Lib.hid (OO.out.below ((Below.refl _ _).alloc (Nat.le_refl _) (Obj.cells #[.int .i64 d.num, .int .i64 d.dec, .int .i64 d.due, .int .i64 d.amt, .int .i64 d.left] 49)))
        clear hd hlen
        cases hz : (d.left == 0)
        · have HN := Lib.hid (show (De.g L j).left ≠ 0 by rw [Dd.out]; exact beq_eq_false_iff_ne.1 hz)
          go_wp2_with (first | (go_at_call 67; refine (paid_any d _).mono ?_; rintro e w2 ⟨rfl, hb2⟩; obtain ⟨g2, e2, -, -, hg2, hC2, hf2, hput⟩ := SD_put (OA.out.below hb2) (show i < M.length by rw [hLM.out]; omega); cases e2; have HP := Lib.hid (hput d); obtain ⟨x0, x1, x2, x3, x4⟩ := hC2; have f0 := hf2 (i * 5); have f1 := hf2 (i * 5 + 1); have f2 := hf2 (i * 5 + 2); have f3 := hf2 (i * 5 + 3); have f4 := hf2 (i * 5 + 4); obtain ⟨b0, b1, b2, b3, b4⟩ := (DAt.below (B := (wr.alloc (Obj.cells #[.int .i64 d.num, .int .i64 d.dec, .int .i64 d.due, .int .i64 d.amt, .int .i64 d.left] 49)).heap.size) (b := wr.heap.size) (o := 0) (d := d) ⟨by go_simp, by go_simp, by go_simp, by go_simp, by go_simp⟩ hb2 (by simp)); simp only [Nat.zero_add] at b1 b2 b3 b4; have hne : wr.heap.size ≠ g := (by omega); have hne2 : g ≠ wr.heap.size := (by omega); have SS := Lib.hid hb2.size; clear hput hf2))
          have hba := Lib.hid ((Below.refl wr.heap.size wr).alloc (Nat.le_refl _) (Obj.cells #[.int .i64 d.num, .int .i64 d.dec, .int .i64 d.due, .int .i64 d.amt, .int .i64 d.left] 49))
          have HBB := Lib.hid (bstep hB (BB.out.alloc (by omega) (Obj.cells #[.int .i64 d.num, .int .i64 d.dec, .int .i64 d.due, .int .i64 d.amt, .int .i64 d.left] 49)) hb2)
          have HFF := Lib.hid (far_below (far_below FF.out hsz hba.out) (by simp; omega) hb2)
          have hs2 : w.heap.size ≤ w2.heap.size := by have := SS.out; simp at this; omega
          go_roundw
          case rel => exact ⟨i + 1, j + 1, M.set i d, by go_num, by go_num, by have := DD.out.keep hlt HN.out; rw [Dd.out] at this; exact this, HP.out, ((((HBB.out.setCell hBg _).setCell hBg _).setCell hBg _).setCell hBg _).setCell hBg _, by simpa [World.setCell] using hs2,
            far_set (far_set (far_set (far_set (far_set HFF.out (fun k h => h) _ _) (fun k h => h) _ _) (fun k h => h) _ _) (fun k h => h) _ _) (fun k h => h) _ _⟩
          case measure => simp [intOf]; omega
        · have HN := Lib.hid (show (De.g L j).left = 0 by rw [Dd.out]; exact beq_iff_eq.1 hz)
          go_wp2_with (first | (go_at_call 67; refine (paid_any d _).mono ?_; rintro e w2 ⟨rfl, hb2⟩))
          have hba := Lib.hid ((Below.refl wr.heap.size wr).alloc (Nat.le_refl _) (Obj.cells #[.int .i64 d.num, .int .i64 d.dec, .int .i64 d.due, .int .i64 d.amt, .int .i64 d.left] 49))
          go_roundw
          case rel => exact ⟨i, j + 1, M, rfl, by go_num, DD.out.skip hlt HN.out, OA.out.below hb2, bstep hB (BB.out.alloc (by omega) _) hb2, by have := hb2.size; simp at this; omega, far_below (far_below FF.out hsz hba.out) (by simp; omega) hb2⟩
          case measure => simp [intOf]; omega
      · obtain rfl : j = L.length := by omega
        obtain ⟨g', cur, e, -, -, hgl, hblk, hlc, hcm2, hcs, htk⟩ := OO.out.block (show 0 < M.length by rw [hLM.out]; omega)
        cases e
        have hcs5 : cur.size = cap * 5 := hcs
        have hrange : ∀ t, t < (L.length - i) * 5 → i * 5 + t < cur.size := fun t ht => by
          rw [hcs5]; rw [hLM.out] at hlc; omega
        obtain ⟨Z, hZl, hcl⟩ := run_clear_any (P := Try.prog) wr 40 49 _ 5 Try.underlying40 zero_dbt rfl (by intro u hu; simp [Value.cells] at hu; rw [hu]; rfl) g (i * 5) (L.length - i) (cap - i) (by omega) (by decide) (fun t ht => by
          have := hrange t ht
          unfold BlockAt at hblk
          simp [World.cell?, hblk, this]) (fun t ht => by
          have := hrange t ht
          unfold BlockAt at hblk
          simp [World.frozen?, hblk])
        obtain ⟨cur', hb', hs', hp'⟩ := hblk.setCells Z (i * 5)
        have hnz : De.nz L = M.take i := by have := DD.out.low; rw [List.take_length] at this; exact this.symm
        have hnl : (De.nz L).length = i := by rw [hnz, List.length_take, hLM.out]; omega
        have hpre : cur'.toList.take (i * 5) = SD.flat (De.nz L) := by
          have e1 : cur'.toList.take (i * 5) = cur.toList.take (i * 5) := by
            apply List.ext_getElem?
            intro t
            rw [List.getElem?_take, List.getElem?_take]
            split
            · rename_i ht
              have := hp' t ht
              simpa using this
            · rfl
          rw [e1, hnz, Shape.flat_take, ← htk]
          rw [List.take_take]
          congr 1
          show i * 5 = min (i * 5) (M.length * 5)
          rw [hLM.out]; omega
        have RR := Lib.hid (show OwnR SD (wr.setCells g (i * 5) Z) 49 B (.slice (some ⟨g, 0, none⟩) i cap) (De.nz L) from by
          have := OwnR.of_block (S := SD) (L := De.nz L) hb' hBg (by rw [hnl]; omega) hcm2 (by rw [hs']; exact hcs) (by rw [hnl]; exact hpre)
          rw [hnl] at this
          exact this)
        have NL := Lib.hid hnl
        have BE := Lib.hid (BB.out.trans (setCells_below Z (i * 5) hBg))
        have FE := Lib.hid (fun (k : Nat) (hk : k < w.heap.size) (hne : k ≠ g) => (setCells_other Z (w := wr) (i * 5) hne).trans (FF.out k hk hne))
        have hi0 : (0 : Int) ≤ (i : Int) := Int.natCast_nonneg _
        have hi1 : (i : Int) < (L.length : Int) := by omega
        have hicap : i ≠ cap := by rw [hLM.out] at hlc; omega
        have hicap2 : i < cap := by rw [hLM.out] at hlc; omega
        have hcapm : cap ≤ 9223372036854775807 := by unfold maxLen at hcm; omega
        clear hnz hpre hb' hs' hp' hblk htk hcs hcs5 hrange hnl hlen
        go_wp2_with (simp only [hcl])
        go_ret
        unfold DelGive2
        rw [NL.out]
        exact ⟨rfl, RR.out, BE.out, fun k hk hne => FE.out k hk (fun e => hne (by rw [e]; rfl))⟩

end Go.Proofs.Ytdnddikchchdkaa
