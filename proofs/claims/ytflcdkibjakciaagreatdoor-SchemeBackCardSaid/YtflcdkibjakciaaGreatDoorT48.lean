/-
  THE WALK over law17.SchemeLines.
-/
import Derived.Test.YtflcdkibjakciaaGreatDoorT46
import Derived.Test.YtflcdkibjakciaaGreatDoorLx
namespace Go.Proofs.YtflcdkibjakciaaGreatDoor
open Go.RowKit Te Sc

/-- The text of a right law, as Print gives it. -/
structure TextOf (L : List Sch) (S : ByteArray) : Prop where
  txt : S.data.toList = Wo.jText (linesL L)
  size : S.size ≤ 13600
  print : ∀ {Q : Nat → Prop} (d : Nat) (p : Option Addr) (n c : Nat) (W : World), SsAt Q W d p L → L.length = n → n ≤ c → Env W → Calls Tryz.prog 13 #[.slice p n c] W (fun e w' => e = .returned (.tuple #[.string S, .int .i64 0]) ∧ Below W.heap.size W w')

theorem textOf {L : List Sch} (hck : chk17 L = (-1, 0)) : ∃ S, TextOf L S := by
  have OK := lawOk hck
  have e : prT17 L = Wo.jText (linesL L) := by unfold prT17; rw [hck]; rfl
  refine ⟨⟨(prT17 L).toArray⟩, e, ?_, fun d p n c W hs hn hc hE => ?_⟩
  · have h1 := (linesL_len L OK.one).1
    have h2 := OK.len
    rw [← e] at h1
    show (prT17 L).toArray.size ≤ 13600
    rw [List.size_toArray]
    omega
  · subst hn
    have := print17_any d p L c W hs OK.small hc hE
    unfold PrintG17 at this
    rw [hck] at this
    exact this

/-- What a text's parsing gives. -/
def PaG (R : List Sch × Int × Int) (w : World) (e : Ending) (w' : World) : Prop :=
  ∃ p c d, e = .returned (.tuple #[.slice p R.1.length c, .int .i64 R.2.1, .int .i64 R.2.2]) ∧ Hid (SsAt (NewQ w.heap.size) w' d p R.1) ∧ Below w.heap.size w w'
theorem parse_to {s : ByteArray} {R : List Sch × Int × Int} (h : parse17 s.data.toList = R) (hs : s.size ≤ 9223372036854775807) (w : World) (hE : Env w) : Calls Tryz.prog 15 #[.string s] w (PaG R w) := by
  subst h
  exact (parse17_any s w hE hs).mono fun e w' ⟨p, c, d, h1, h2, _, h4⟩ => ⟨p, c, d, h1, Lib.hid h2, h4⟩

set_option maxRecDepth 100000 in
set_option maxHeartbeats 8000000 in
theorem schemeLines_walk (a : Option Addr) (len cap : Nat) (z : List Int) (w : World) (h : IsRow .i64 w a len cap z) (hE : Env w) :
    Calls Tryz.prog 5 #[.slice a len cap] w (Yes w) := by
  have HN := Lib.hid (new_any a len cap z w h)
  have HE := Lib.hid hE
  clear h hE
  obtain ⟨l, el⟩ : ∃ l, (z.take len).take 400 = l := ⟨_, rfl⟩
  rw [el] at HN
  clear el
  go_enter Tryz.func5, Tryz.ntmps5
  go_wp2_with (first
    | (go_at_call 9; refine Calls.mono HN.out ?_; rintro e w1 ⟨rfl, ht1, hb1⟩)
    | fail)
  (with_reducible refine Calls.mono (tapeLaw_any w.heap.size l 0 2 (by decide) w1 ht1) ?_)
  rintro e w2 ⟨v, L, q, rfl, hLw, hck, -, -, -, hB2⟩
  have HB2 := Lib.hid (hb1.trans (hB2.below (Nat.le_refl _) hb1.size))
  obtain ⟨n, hn⟩ : ∃ n, L.length = n := ⟨_, rfl⟩
  obtain ⟨p, c, d, rfl, hnc, -, hss⟩ := hLw.ss hn
  have OK := Lib.hid (lawOk hck)
  obtain ⟨S, hS⟩ := textOf hck
  have PR := Lib.hid (hS.print d p n c w2 hss hn hnc (HE.out.below HB2.out))
  have hSz := hS.size
  have TX := Lib.hid hS.txt
  have CT := Lib.hid (fun (W : World) => Tryz.strings_Count_one S 10 W)
  obtain ⟨m, em⟩ : ∃ m : Nat, Lib.countByte S.data.toList 10 = m := ⟨_, rfl⟩
  have hm : m = (linesL L).length := by rw [← em, hS.txt]; exact law_count OK.out
  have hm0 : (0 : Int) ≤ (m : Int) := Int.natCast_nonneg _
  have hm4 : m ≤ 400 := by have := (linesL_len L OK.out.one).2; have := OK.out.len; omega
  rw [em] at CT
  have P1 := Lib.hid (fun (W : World) (hW : Env W) => parse_to (s := S ++ ⟨#[115, 99, 104, 101, 109, 101, 32, 57, 32, 122, 32, 48, 10, 105, 102, 32, 116, 114, 117, 101, 10]⟩) (wrong1 OK.out (by rw [ByteArray.data_append, Array.toList_append, TX.out]) (by rw [size_len, ByteArray.size_append]; show S.size + 21 ≤ _; omega)) (by rw [ByteArray.size_append]; show S.size + 21 ≤ _; omega) W hW)
  have P2 := Lib.hid (fun (W : World) (hW : Env W) => parse_to (s := S ++ ⟨#[115, 99, 104, 101, 109, 101, 32, 57, 32, 122, 32, 48, 10, 114, 97, 116, 101, 32, 49, 32, 49, 10]⟩) (wrong2 OK.out (by rw [ByteArray.data_append, Array.toList_append, TX.out]) (by rw [size_len, ByteArray.size_append]; show S.size + 22 ≤ _; omega)) (by rw [ByteArray.size_append]; show S.size + 22 ≤ _; omega) W hW)
  have P3 := Lib.hid (fun (W : World) (hW : Env W) => parse_to (s := S ++ ⟨#[115, 99, 104, 101, 109, 101, 32, 57, 32, 122, 32, 48, 10, 105, 102, 32, 116, 114, 117, 101, 32, 116, 114, 117, 101, 10, 114, 97, 116, 101, 32, 49, 32, 49, 10]⟩) (wrong3 OK.out (by rw [ByteArray.data_append, Array.toList_append, TX.out]) (by rw [size_len, ByteArray.size_append]; show S.size + 35 ≤ _; omega)) (by rw [ByteArray.size_append]; show S.size + 35 ≤ _; omega) W hW)
  have P4 := Lib.hid (fun (W : World) (hW : Env W) => parse_to (s := S ++ ⟨#[105, 102, 10]⟩) (wrong4 OK.out (by rw [ByteArray.data_append, Array.toList_append, TX.out]) (by rw [size_len, ByteArray.size_append]; show S.size + 3 ≤ _; omega)) (by rw [ByteArray.size_append]; show S.size + 3 ≤ _; omega) W hW)
  rw [← hm] at P1 P2 P3 P4
  unfold PaG at P1 P2 P3 P4
  simp only [List.length_nil] at P1 P2 P3 P4
  have AW := Lib.hid (fun (W : World) (hW : Env W) => awake17_any W hW)
  unfold Yes at AW
  clear hLw hck hB2 hb1 ht1 hss hn HN hnc hS em hm
  go_wp2_with fail
  (with_reducible refine Calls.mono PR.out ?_)
  rintro e w3 ⟨rfl, hb3⟩
  have B3 := Lib.hid (bstep (Nat.le_refl _) HB2.out hb3)
  clear hb3
  go_wp2_with (first | (go_at_call 14; (with_reducible refine Calls.mono (CT.out _) ?_); rintro e w4 ⟨rfl, rfl⟩) | fail)
  (with_reducible refine Calls.mono (P1.out _ (HE.out.below B3.out)) ?_)
  rintro e w5 ⟨p5, c5, d5, rfl, -, hb5⟩
  have B5 := Lib.hid (bstep (Nat.le_refl _) B3.out hb5)
  clear hb5
  go_wp2_with fail
  (with_reducible refine Calls.mono (P2.out _ (HE.out.below B5.out)) ?_)
  rintro e w6 ⟨p6, c6, d6, rfl, -, hb6⟩
  have B6 := Lib.hid (bstep (Nat.le_refl _) B5.out hb6)
  clear hb6
  go_wp2_with fail
  (with_reducible refine Calls.mono (P3.out _ (HE.out.below B6.out)) ?_)
  rintro e w7 ⟨p7, c7, d7, rfl, -, hb7⟩
  have B7 := Lib.hid (bstep (Nat.le_refl _) B6.out hb7)
  clear hb7
  go_wp2_with fail
  (with_reducible refine Calls.mono (P4.out _ (HE.out.below B7.out)) ?_)
  rintro e w8 ⟨p8, c8, d8, rfl, -, hb8⟩
  have B8 := Lib.hid (bstep (Nat.le_refl _) B7.out hb8)
  clear hb8
  go_wp2_with fail
  (with_reducible refine Calls.mono (AW.out _ (HE.out.below B8.out)) ?_)
  rintro e w9 ⟨rfl, hb9⟩
  have HF := Lib.hid (bstep (Nat.le_refl _) B8.out hb9)
  clear hb9
  go_wp2
  go_ret
  exact ⟨rfl, HF.out⟩

end Go.Proofs.YtflcdkibjakciaaGreatDoor
