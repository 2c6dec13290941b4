/-
  THE WALK over law17.SchemeBack.
-/
import Derived.Test.YtflcdkibjakciaaGreatDoorT48
namespace Go.Proofs.YtflcdkibjakciaaGreatDoor
open Go.RowKit Te Sc

set_option maxRecDepth 100000 in
set_option maxHeartbeats 8000000 in
theorem schemeBack_walk (a : Option Addr) (len cap : Nat) (z : List Int) (w : World) (h : IsRow .i64 w a len cap z) (hE : Env w) :
    Calls Tryz.prog 8 #[.slice a len cap] w (Yes w) := by
  have HN := Lib.hid (new_any a len cap z w h)
  have HE := Lib.hid hE
  clear h hE
  obtain ⟨l, el⟩ : ∃ l, (z.take len).take 400 = l := ⟨_, rfl⟩
  rw [el] at HN
  clear el
  go_enter Tryz.func8, Tryz.ntmps8
  go_wp2_with (first
    | (go_at_call 9; refine Calls.mono HN.out ?_; rintro e w1 ⟨rfl, ht1, hb1⟩)
    | fail)
  (with_reducible refine Calls.mono (tapeLaw_any w.heap.size l 0 3 (by decide) w1 ht1) ?_)
  rintro e w2 ⟨v, L, q, rfl, hLw, hck, hl3, -, -, hB2⟩
  have HB2 := Lib.hid (hb1.trans (hB2.below (Nat.le_refl _) hb1.size))
  obtain ⟨n, hn⟩ : ∃ n, L.length = n := ⟨_, rfl⟩
  obtain ⟨p, c, d, rfl, hnc, -, hss⟩ := hLw.ss hn
  have OK := Lib.hid (lawOk hck)
  obtain ⟨S, hS⟩ := textOf hck
  have PR := Lib.hid (hS.print d p n c w2 hss hn hnc (HE.out.below HB2.out))
  have HSS := Lib.hid hss
  have HLN := Lib.hid hn
  have hSz : S.size ≤ 2550 := by
    have h1 := (linesL_len L OK.out.one).1
    rw [← size_len, hS.txt]
    omega
  have PA := Lib.hid (fun (W : World) (hW : Env W) => parse_to (s := S) (R := (L, 0, 0)) (by rw [hS.txt]; exact parse_right hck OK.out.one OK.out.len) (by omega) W hW)
  obtain ⟨mx, hmx⟩ := HE.out.ml
  obtain ⟨D, eD⟩ : ∃ D : ByteArray, (⟨(Lib.replaceAll S.data.toList [32] [32, 32]).toArray⟩ : ByteArray) = D := ⟨_, rfl⟩
  have hD : D.data.toList = dbl (Wo.jText (linesL L)) := by rw [← eD]; show (Lib.replaceAll S.data.toList [32] [32, 32]) = _; rw [rep_dbl, hS.txt]
  have hDz : D.size ≤ 5100 := by
    have h1 := dbl_len (Wo.jText (linesL L))
    rw [← size_len, hD]
    rw [← hS.txt, size_len] at h1
    rw [← hS.txt]
    omega
  have RP := Lib.hid (fun (W : World) (hW : Below w.heap.size w W) => show Calls Tryz.prog 29 #[.string S, .string ⟨#[32]⟩, .string ⟨#[32, 32]⟩] W (fun e w' => e = .returned (.string D) ∧ Below W.heap.size W w') from by
    have h1 := Lib.countB_le ⟨#[32]⟩ (by decide) S.size S (Nat.le_refl _)
    have := Tryz.strings_ReplaceAll S ⟨#[32]⟩ ⟨#[32, 32]⟩ mx W (by omega) ((hW.cell (World.block_lt_of_cell? w _ hmx)).trans hmx) (by decide) (by show S.size + Lib.countB S ⟨#[32]⟩ * 2 ≤ _; omega)
    rw [show (⟨#[32]⟩ : ByteArray).data.toList = [32] from rfl, show (⟨#[32, 32]⟩ : ByteArray).data.toList = [32, 32] from rfl, eD] at this
    exact this)
  have PB := Lib.hid (fun (W : World) (hW : Env W) => parse_to (s := ⟨#[35, 32, 108, 97, 119, 10, 10]⟩ ++ D) (R := (L, 0, 0)) (parse_dbl hck (by rw [ByteArray.data_append, Array.toList_append, hD]) (by rw [size_len, ByteArray.size_append]; show 7 + D.size ≤ _; omega)) (by rw [ByteArray.size_append]; show 7 + D.size ≤ _; omega) W hW)
  have SM := Lib.hid (fun (Q : Nat → Prop) (dd : Nat) (pp : Option Addr) (cc : Nat) (W : World) (h1 : SsAt Q W dd pp L) (h2 : SsAt (fun b => w1.heap.size ≤ b) W d p L) => same17_any dd d pp p L n cc c W hn h1 h2)
  unfold PaG at PA PB
  unfold BoolG at SM
  simp only [hn] at PA PB
  have AW := Lib.hid (fun (W : World) (hW : Env W) => awake17_any W hW)
  unfold Yes at AW
  clear hLw hck hB2 hb1 ht1 hss hn HN hnc hS hD eD hmx hl3
  go_wp2_with fail
  (with_reducible refine Calls.mono PR.out ?_)
  rintro e w3 ⟨rfl, hb3⟩
  have B3 := Lib.hid (bstep (Nat.le_refl _) HB2.out hb3)
  have S3 := Lib.hid (HSS.out.below hb3)
  clear hb3
  go_wp2_with fail
  (with_reducible refine Calls.mono (PA.out _ (HE.out.below B3.out)) ?_)
  rintro e w4 ⟨p4, c4, d4, rfl, h4, hb4⟩
  have B4 := Lib.hid (bstep (Nat.le_refl _) B3.out hb4)
  have S4 := Lib.hid (S3.out.below hb4)
  clear hb4
  go_wp2_with fail
  (with_reducible refine Calls.mono (RP.out _ B4.out) ?_)
  rintro e w5 ⟨rfl, hb5⟩
  have B5 := Lib.hid (bstep (Nat.le_refl _) B4.out hb5)
  have S5 := Lib.hid (S4.out.below hb5)
  have H5 := Lib.hid (h4.out.below hb5)
  clear hb5 h4
  go_wp2_with fail
  (with_reducible refine Calls.mono (PB.out _ (HE.out.below B5.out)) ?_)
  rintro e w6 ⟨p6, c6, d6, rfl, h6, hb6⟩
  have B6 := Lib.hid (bstep (Nat.le_refl _) B5.out hb6)
  have S6 := Lib.hid (S5.out.below hb6)
  have H6 := Lib.hid (H5.out.below hb6)
  clear hb6
  go_wp2_with fail
  (with_reducible refine Calls.mono (SM.out _ d4 p4 c4 _ H6.out S6.out) ?_)
  rintro e w7 ⟨rfl, hb7⟩
  have B7 := Lib.hid (bstep (Nat.le_refl _) B6.out hb7)
  have S7 := Lib.hid (S6.out.below hb7)
  have H7 := Lib.hid (h6.out.below hb7)
  clear hb7 h6
  go_wp2_with fail
  (with_reducible refine Calls.mono (SM.out _ d6 p6 c6 _ H7.out S7.out) ?_)
  rintro e w8 ⟨rfl, hb8⟩
  have B8 := Lib.hid (bstep (Nat.le_refl _) B7.out hb8)
  clear hb8
  go_wp2_with fail
  (with_reducible refine Calls.mono (AW.out _ (HE.out.below B8.out)) ?_)
  rintro e w9 ⟨rfl, hb9⟩
  have HF := Lib.hid (bstep (Nat.le_refl _) B8.out hb9)
  clear hb9
  go_wp2
  go_ret
  exact ⟨rfl, HF.out⟩

end Go.Proofs.YtflcdkibjakciaaGreatDoor
