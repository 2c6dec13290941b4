/-
  THE WALK over debt.Offset where nothing is wrong.
-/
import Derived.Test.YtdnddikchchdkaaD11
import Derived.Outline
namespace Go.Proofs.Ytdnddikchchdkaa
open Go.RowKit Go.Sort Go.Lib Go.Shelf

/-- A pointer in a cell of its own. -/
def SPtr : Shape Addr := ⟨1, fun a => [.pointer (some a)], fun _ => rfl, by decide, fun a u hu => by
  simp only [List.mem_cons, List.not_mem_nil, or_false] at hu
  rw [hu]; rfl⟩

theorem info_pdbt : (Try.prog.info? 85).map (fun i => (i.zero, i.size, i.bytes)) = some (some (.pointer none), 1, 8) := by kernel_rfl

theorem el_pdbt : Elem SPtr Try.prog 85 84 8 := by
  obtain ⟨i0, h1, h2, h3, h4⟩ := info_parts info_pdbt
  exact ⟨⟨i0, _, h1, h2, h3, h4, rfl⟩, Try.underlying84⟩

/-- The pointers to the debts at some places. -/
def ptrs (g : Nat) (l : List Nat) : List Addr := l.map fun i => ⟨g, i * 5, none⟩

theorem dueTo_le (L : List De.Dbt) (day : Int) (k : Nat) : (((List.finRange L.length).take k).filter (fun x => decide ((De.g L x.val).due ≤ day))).length ≤ L.length := by
  refine Nat.le_trans (List.length_filter_le _ _) ?_
  rw [List.length_take]
  simp
  omega

/-- The places of those of the first k that are due. -/
def dueTo (L : List De.Dbt) (day : Int) (k : Nat) : List Nat := (((List.finRange L.length).take k).filter (fun x => decide ((De.g L x.val).due ≤ day))).map Fin.val

theorem dueTo_zero (L : List De.Dbt) (day : Int) : dueTo L day 0 = [] := by simp [dueTo]
theorem dueTo_len (L : List De.Dbt) (day : Int) (k : Nat) : (dueTo L day k).length ≤ L.length := by unfold dueTo; rw [List.length_map]; exact dueTo_le L day k
theorem dueTo_yes {L : List De.Dbt} {day : Int} {k : Nat} (hk : k < L.length) (h : (De.g L k).due ≤ day) : dueTo L day (k + 1) = dueTo L day k ++ [k] := by
  unfold dueTo; rw [De.dueTo_succ hk, if_pos h, List.map_append]; rfl
theorem dueTo_no {L : List De.Dbt} {day : Int} {k : Nat} (hk : k < L.length) (h : ¬ (De.g L k).due ≤ day) : dueTo L day (k + 1) = dueTo L day k := by
  unfold dueTo; rw [De.dueTo_succ hk, if_neg h, List.append_nil]
theorem dueTo_all (L : List De.Dbt) (day : Int) : dueTo L day L.length = (De.dueL L day).map Fin.val := by
  unfold dueTo De.dueL
  rw [List.take_of_length_le (by simp)]

theorem OwnR.row {w : World} {T : TypeId} {B n c g : Nat} {l : List Nat} {gb : Nat} (h : OwnR SPtr w T B (.slice (some ⟨g, 0, none⟩) n c) (ptrs gb l)) (hl : 0 < l.length) : g < w.heap.size ∧ n = l.length ∧ B ≤ g ∧ Row w g l.length fun j => .pointer (some ⟨gb, l.getD j 0 * 5, none⟩) := by
  have hp : 0 < (ptrs gb l).length := by unfold ptrs; rw [List.length_map]; exact hl
  obtain ⟨g', e, e2, hB, hlt, -, -, -⟩ := h.at hp
  cases e
  have hn : n = l.length := by rw [e2]; unfold ptrs; rw [List.length_map]
  refine ⟨hlt, hn, hB, hlt, fun j hj => ?_⟩
  obtain ⟨g2, e3, -, -, -, hc, hf, -⟩ := h.at (k := j) (by unfold ptrs; rw [List.length_map]; exact hj)
  cases e3
  refine ⟨?_, hf j⟩
  have := hc 0 _ rfl
  rw [show j * SPtr.k + 0 = j by show j * 1 + 0 = j; omega] at this
  rw [this]
  unfold ptrs
  simp [List.getD_eq_getElem?_getD, hj]

/-- The end of Offset where nothing is wrong. -/
theorem BoxA.blk {w w' : World} {b : Nat} {farm : Int} {p : Option Addr} {n c : Nat} {next : Int} (h : BoxA w b farm p n c next) (e : w'.heap[b]? = w.heap[b]?) (hs : w.heap.size ≤ w'.heap.size) : BoxA w' b farm p n c next := by
  have hc : ∀ i, w'.cell? ⟨b, i, none⟩ = w.cell? ⟨b, i, none⟩ := fun i => World.cell?_of_block (w := w) e
  have hf : ∀ i, w'.frozen? ⟨b, i, none⟩ = w.frozen? ⟨b, i, none⟩ := fun i => World.frozen?_of_block (w := w) e
  exact ⟨(hc 0).trans h.a0, (hc 1).trans h.a1, (hc 2).trans h.a2, (hf 0).trans h.f0, (hf 1).trans h.f1, (hf 2).trans h.f2, Nat.lt_of_lt_of_le h.lt hs⟩

theorem Row.blk {w w' : World} {b n : Nat} {f : Nat → Value} (h : Row w b n f) (e : w'.heap[b]? = w.heap[b]?) (hs : w.heap.size ≤ w'.heap.size) : Row w' b n f :=
  ⟨Nat.lt_of_lt_of_le h.1 hs, fun j hj => ⟨(World.cell?_of_block (w := w) e).trans (h.2 j hj).1, (World.frozen?_of_block (w := w) e).trans (h.2 j hj).2⟩⟩

/-- What stands when the debts are paid off, one after the other. -/
structure Pays (w wr : World) (farm next : Int) (p1 : Option Addr) (c1 gb ob bx rx B n : Nat) (L M : List De.Dbt) (σ : List Nat) (day a0 amt : Int) (m : Nat) : Prop where
  inv : De.Inv L day a0 σ M amt m
  own : OwnR SD wr 49 B (.slice p1 L.length c1) M
  box : BoxA wr bx farm p1 L.length c1 next
  res : BoxA wr rx 0 none 0 0 0
  row : 0 < n → Row wr ob n fun j => .pointer (some ⟨gb, σ.getD j 0 * 5, none⟩)
  below : Below w.heap.size w wr
  size : B ≤ wr.heap.size

/-- What sorting gives, whatever is due. -/
def Sorted_ (ws : World) (ob gb : Nat) (L : List De.Dbt) (day : Int) (e : Ending) (w' : World) : Prop :=
  e = .returned (.tuple #[]) ∧ (0 < (De.dueL L day).length → Row w' ob (De.dueL L day).length (fun j => .pointer (some ⟨gb, (De.ord L day).getD j 0 * 5, none⟩))) ∧ ws.heap.size ≤ w'.heap.size ∧ (∀ k, k < ws.heap.size → (0 < (De.dueL L day).length → k ≠ ob) → w'.heap[k]? = ws.heap[k]?) ∧ ∀ B, (0 < (De.dueL L day).length → B ≤ ob) → B ≤ ws.heap.size → Below B ws w'

theorem BoxA.other {w : World} {b g i : Nat} {farm : Int} {p : Option Addr} {n c : Nat} {next : Int} (h : BoxA w b farm p n c next) (hne : g ≠ b) (u : Value) : BoxA (w.setCell ⟨g, i, none⟩ u) b farm p n c next :=
  h.blk (by simp [World.setCell, Array.getElem?_modify, hne]) (by simp [World.setCell])

theorem sort_any (b ob c2 B : Nat) (p2 : Option Addr) (L : List De.Dbt) (day : Int) (ha : De.Asc L) (w : World) (hn : L.length ≤ 1000) (hb : 0 < L.length → b < w.heap.size ∧ b < B ∧ ∀ i, i < L.length → DAt w b (i * 5) (De.g L i))
    (ho : OwnR SPtr w 85 B (.slice p2 (De.dueL L day).length c2) (ptrs b ((De.dueL L day).map Fin.val))) (hob : ∀ g, p2 = some ⟨g, 0, none⟩ → g = ob) :
    Calls Try.prog 64 #[.slice p2 (De.dueL L day).length c2, .func (.func 65) #[] #[]] w (Sorted_ w ob b L day) := by
  by_cases h0 : 0 < (De.dueL L day).length
  · have hL : 0 < L.length := by
      have := h0
      unfold De.dueL at this
      have := Nat.lt_of_lt_of_le this (List.length_filter_le _ _)
      simpa using this
    obtain ⟨hb1, hb2, hD⟩ := hb hL
    obtain ⟨g, e, -⟩ := ho.at (k := 0) (by unfold ptrs; rw [List.length_map, List.length_map]; exact h0)
    obtain rfl := hob g e
    subst e
    obtain ⟨hlt, -, hBg, hrow⟩ := ho.row (by rw [List.length_map]; exact h0)
    rw [List.length_map] at hrow
    refine (sort_debts b g c2 L day ha w hL hn hb1 hD (by omega) hrow).mono fun e w' h => ?_
    obtain ⟨h1, h2, h3, h4, h5⟩ := h
    exact ⟨h1, fun _ => h2, h3, fun k hk hne => h4 k hk (hne h0), fun B hB => h5 B (hB h0)⟩
  · have e0 : (De.dueL L day).length = 0 := by omega
    rw [e0]
    refine (Try.slices_SortFunc_none_ptr (α := Nat) p2 c2 _ w).mono fun e w' h => ?_
    obtain ⟨h1, rfl⟩ := h
    exact ⟨h1, fun h => absurd h h0, Nat.le_refl _, fun _ _ _ => rfl, fun _ _ _ => Below.refl _ _⟩

def OGive (w : World) (farm : Int) (p0 : Option Addr) (L : List De.Dbt) (next day amount : Int) (e : Ending) (w' : World) : Prop :=
  ∃ p c L' r, e = .returned (.tuple #[accV farm p L'.length c next, .int .i64 r, .int .i64 0]) ∧ De.Off day L amount L' r ∧ Lies w w' p0 p c L'

set_option maxRecDepth 100000 in
set_option maxHeartbeats 8000000 in
theorem offset39_ok (farm next : Int) (p : Option Addr) (L : List De.Dbt) (cap : Nat) (day amount : Int) (w : World) (h : Debts w p L) (hc : p = none → cap = 0) (hR : De.Right farm L next) (hd : De.dayB day = true) (m0 : 0 ≤ amount) (m1 : amount ≤ 68719476736) :
    Calls Try.prog 28 #[accV farm p L.length cap next, .int .i64 day, .int .i64 amount] w (OGive w farm p L next day amount) := by
  have hn := h.len
  have hl40 := hR.len
  have hb1 : Below w.heap.size w ((w.alloc (Obj.cells #[.int .i64 farm, .slice p L.length cap, .int .i64 next] 42)).alloc (Obj.cells #[.int .i64 0, .slice none 0 0, .int .i64 0] 42)) := ((Below.refl w.heap.size w).alloc (Nat.le_refl _) _).alloc (by simp) _
  have B1 := Lib.hid hb1
  have h1 := h.below hb1
  have CL := Lib.hid (clone39_any farm next p L cap ((w.alloc (Obj.cells #[.int .i64 farm, .slice p L.length cap, .int .i64 next] 42)).alloc (Obj.cells #[.int .i64 0, .slice none 0 0, .int .i64 0] 42)) h1 hc (by omega))
  have ck := fun (W : World) (hW : Debts W p L) => check39_any farm next p L cap W hW
  rw [De.chk_ok hR] at ck
  have CK := Lib.hid ck
  have H1 := Lib.hid h1
  have hbx : BoxA ((w.alloc (Obj.cells #[.int .i64 farm, .slice p L.length cap, .int .i64 next] 42)).alloc (Obj.cells #[.int .i64 0, .slice none 0 0, .int .i64 0] 42)) w.heap.size farm p L.length cap next := (BoxA.new w farm p L.length cap next 42).below ((Below.refl _ _).alloc (Nat.le_refl _) _) (by simp)
  have hrx : BoxA ((w.alloc (Obj.cells #[.int .i64 farm, .slice p L.length cap, .int .i64 next] 42)).alloc (Obj.cells #[.int .i64 0, .slice none 0 0, .int .i64 0] 42)) (w.heap.size + 1) 0 none 0 0 0 := by
    have := BoxA.new (w.alloc (Obj.cells #[.int .i64 farm, .slice p L.length cap, .int .i64 next] 42)) 0 none 0 0 0 42
    rw [World.size_alloc] at this
    exact this
  have BX := Lib.hid hbx
  have RX := Lib.hid hrx
  have R := Lib.hid hR
  unfold accV at CL CK ⊢
  clear h hc h1 hb1 hbx hrx ck hR
  go_enter Try.func28, Try.ntmps28
  go_wp2_with (first | (go_at_call 62; refine Calls.mono CL.out ?_; rintro e w1 ⟨p1, c1, rfl, hO1, hbl1⟩; have BX1 := Lib.hid (BX.out.below hbl1 (by simp <;> omega)); have RX1 := Lib.hid (RX.out.below hbl1 (by simp <;> omega)); have H2 := Lib.hid ((H1.out.below hbl1).below ((Below.refl _ _).alloc (Nat.le_refl _) (Obj.cells #[.int .i64 farm, .slice p1 L.length c1, .int .i64 next] 42))); have hs1 : w.heap.size + 1 < w1.heap.size := (by have := hbl1.size; simp at this; omega); obtain ⟨a0, a1, a2, -, -, -, hlt1⟩ := BX1.out; unfold accV) | (go_at_call 30; refine Calls.mono (CK.out _ H2.out) ?_; rintro e w3 ⟨rfl, hb3⟩; have hba := (Below.refl w1.heap.size w1).alloc (Nat.le_refl _) (Obj.cells #[.int .i64 farm, .slice p1 L.length c1, .int .i64 next] 42); have BX3 := Lib.hid ((BX1.out.below hba BX1.out.lt).below hb3 (by simp <;> omega)); have RX3 := Lib.hid ((RX1.out.below hba RX1.out.lt).below hb3 (by simp <;> omega)); have OX3 := Lib.hid ((BoxA.new w1 farm p1 L.length c1 next 42).below hb3 (by simp <;> omega)); have O3 := Lib.hid ((hO1.below hba).below hb3); have BB3 := Lib.hid (((B1.out.trans (hbl1.mono (by simp <;> omega))).alloc (by omega) _).trans (hb3.mono (by simp <;> omega))); obtain ⟨o0, o1, o2, og0, og1, og2, olt⟩ := OX3.out) | (go_at_call 63; refine (day39_any _ _).mono ?_; rintro e w' ⟨rfl, rfl⟩))
  have hO3s := O3.out
  obtain ⟨gb, hgb⟩ : ∃ gb, 0 < L.length → p1 = some ⟨gb, 0, none⟩ ∧ ((w.alloc (Obj.cells #[.int .i64 farm, .slice p L.length cap, .int .i64 next] 42)).alloc (Obj.cells #[.int .i64 0, .slice none 0 0, .int .i64 0] 42)).heap.size ≤ gb ∧ gb < w1.heap.size := by
    by_cases h0 : 0 < L.length
    · obtain ⟨gb, e, -, hB, hlt, -⟩ := hO1.at h0
      exact ⟨gb, fun _ => ⟨e, hB, hlt⟩⟩
    · exact ⟨0, fun h => absurd h h0⟩
  have hs3 : w1.heap.size < w3.heap.size := by have := hb3.size; simp at this; omega
  have HG := Lib.hid hgb
  have HOB := Lib.hid (fun (g : Nat) (hg : (Value.slice p1 L.length c1).ownBlock = some g) => (hO1.lt hg).2)
  clear hO3s hgb hb3 hba hlt1 a0 a1 a2 hO1 hbl1 H1 H2 BX BX1 RX RX1 CL CK B1
  obtain ⟨wz, rfl⟩ : ∃ wz : World, wz = w3 := ⟨_, rfl⟩
  go_loopw [11, 40] (fun v i wr => ∃ k : Nat, k ≤ L.length ∧ i = .int .i64 k ∧ OwnR SPtr wr 85 wz.heap.size v (ptrs gb (dueTo L day k)) ∧ Below wz.heap.size wz wr) (fun _ i _ => L.length - (intOf i).toNat)
  case atStart => exact ⟨0, Nat.zero_le _, rfl, by rw [dueTo_zero]; exact OwnR.nil _ _ _, Below.refl _ _⟩
  case round =>
    obtain ⟨k, hk, rfl, hv, hb⟩ := hrel
    have HV := Lib.hid hv
    have HB := Lib.hid hb
    have hsz := hb.size
    have hdl := dueTo_len L day k
    obtain ⟨b0, b1, b2, -, -, -, blt⟩ := OX3.out.below hb OX3.out.lt
    by_cases hlt : k < L.length
    · obtain ⟨e, hg1, hg2⟩ := HG.out (by omega)
      subst e
      obtain ⟨g', e, -, -, -, hD, -, -⟩ := SD_put (O3.out.below hb) hlt
      cases e
      obtain ⟨d, hd⟩ : ∃ d, De.g L k = d := ⟨_, rfl⟩
      rw [hd] at hD
      have Dd := Lib.hid hd
      obtain ⟨c0, c1', c2, c3, c4⟩ := hD
      have hk0 : (0 : Int) ≤ (k : Int) := Int.natCast_nonneg _
      have hk1 : (k : Int) < (L.length : Int) := by omega
      clear hv hb hd
      by_cases hdue : d.due ≤ day
      · have DY := Lib.hid (dueTo_yes hlt (by rw [Dd.out]; exact hdue))
        go_wp2_with (first | (at_builtin; (refine OwnR.append el_pdbt rfl (.tmp 51) (.tmp 56) rfl wz.heap.size _ _ (⟨gb, k * 5, none⟩ : Addr) #[.pointer (some ⟨gb, k * 5, none⟩)] rfl HV.out rfl rfl hsz (by unfold ptrs; rw [List.length_map]; omega) (by decide) ?_); intro v5 w5 hO5 hap5))
        have HO5 := Lib.hid hO5
        have HB5 := Lib.hid (HB.out.trans hap5.below)
        clear hO5 hap5
        go_roundw
        case rel => exact ⟨k + 1, by omega, by go_num, by rw [DY.out]; unfold ptrs; rw [List.map_append]; exact HO5.out, HB5.out⟩
        case measure => simp [intOf]; omega
      · have DN := Lib.hid (dueTo_no hlt (by rw [Dd.out]; exact hdue))
        go_wp2
        go_roundw
        case rel => exact ⟨k + 1, by omega, by go_num, by rw [DN.out]; exact HV.out, HB.out⟩
        case measure => simp [intOf]; omega
    · obtain rfl : k = L.length := by omega
      rw [dueTo_all] at hv
      have hlen : (ptrs gb ((De.dueL L day).map Fin.val)).length = (De.dueL L day).length := by unfold ptrs; rw [List.length_map, List.length_map]
      obtain ⟨p2, c2, rfl, hnil, hpos, -, -, -⟩ := hv.cut hlen
      have HV2 := Lib.hid hv
      have OXr := Lib.hid (OX3.out.below hb OX3.out.lt)
      have RXr := Lib.hid (RX3.out.below hb RX3.out.lt)
      have Or := Lib.hid (O3.out.below hb)
      have BBr := Lib.hid (bstep (Nat.le_refl _) BB3.out hb)
      clear hv hb HV hlen hnil hpos b0 b1 b2 blt OX3 RX3 O3 BB3 HB
      obtain ⟨ob, hob⟩ : ∃ ob, ∀ g, p2 = some ⟨g, 0, none⟩ → g = ob := by
        cases p2 with
        | none => exact ⟨0, fun g h => by cases h⟩
        | some a => exact ⟨a.block, fun g h => by cases h; rfl⟩
      have hobs : 0 < (De.dueL L day).length → wz.heap.size ≤ ob := fun h0 => by
        obtain ⟨g, e, -, hB, -⟩ := HV2.out.at (k := 0) (by unfold ptrs; rw [List.length_map, List.length_map]; exact h0)
        rw [← hob g e]; exact hB
      have ST := Lib.hid (sort_any gb ob c2 wz.heap.size p2 L day R.out.asc wr (by omega) (fun h0 => by
        obtain ⟨e, hg1, hg2⟩ := HG.out h0
        refine ⟨by omega, by omega, fun i hi => ?_⟩
        have hO := Or.out
        rw [e] at hO
        obtain ⟨g', e', -, -, -, hD, -, -⟩ := SD_put hO hi
        cases e'
        exact hD) HV2.out hob)
      have HOBS := Lib.hid hobs
      have HOBP := Lib.hid hob
      clear hob hobs
      go_wp2_with fail
      go_at_call 64
      refine Calls.mono ST.out ?_
      rintro e ws ⟨rfl, hsr, hss, hsb, hsB⟩
      have hne : ∀ k, k < wz.heap.size → (0 < (De.dueL L day).length → k ≠ ob) := fun k hk h0 => by have := HOBS.out h0; omega
      have PAY := Lib.hid (show Pays w ws farm next p1 c1 gb ob w1.heap.size (w.heap.size + 1) ((w.alloc (Obj.cells #[.int .i64 farm, .slice p L.length cap, .int .i64 next] 42)).alloc (Obj.cells #[.int .i64 0, .slice none 0 0, .int .i64 0] 42)).heap.size (De.dueL L day).length L L (De.ord L day) day amount amount 0 from
        ⟨De.Inv.start R.out.fine day amount _ m0, Or.out.blocks (fun g hg _ hl => hsb g hl (hne g (by have := HOB.out g hg; omega))), OXr.out.blk (hsb _ OXr.out.lt (hne _ hs3)) hss, RXr.out.blk (hsb _ RXr.out.lt (hne _ (by omega))) hss, hsr,
          BBr.out.trans (hsB w.heap.size (fun h0 => by have := HOBS.out h0; omega) (by omega)), by simp <;> omega⟩)
      have hol := Lib.hid (De.ord_len L day)
      have OK := Lib.hid (De.ord_ok R.out.asc day)
      have hdl2 : (De.dueL L day).length ≤ L.length := by have := dueTo_len L day L.length; rw [dueTo_all, List.length_map] at this; exact this
      clear hsr hss hsb hsB hne ST OXr RXr Or BBr hsz hdl
      go_wp2
      go_loopw [2, 63] (fun a i wr => ∃ (m : Nat) (M : List De.Dbt) (amt : Int), m ≤ (De.dueL L day).length ∧ i = .int .i64 m ∧ a = .int .i64 amt ∧ amt ≤ amount ∧ Pays w wr farm next p1 c1 gb ob w1.heap.size (w.heap.size + 1) ((w.alloc (Obj.cells #[.int .i64 farm, .slice p L.length cap, .int .i64 next] 42)).alloc (Obj.cells #[.int .i64 0, .slice none 0 0, .int .i64 0] 42)).heap.size (De.dueL L day).length L M (De.ord L day) day amount amt m) (fun _ i _ => (De.dueL L day).length - (intOf i).toNat)
      case atStart => exact ⟨0, L, amount, Nat.zero_le _, rfl, rfl, Int.le_refl _, PAY.out⟩
      case round =>
        obtain ⟨m, M, amt, hm, rfl, rfl, hma, hP⟩ := hrel
        have PP := Lib.hid hP
        have ham := hP.inv.amt0
        have hML := Lib.hid hP.inv.len
        clear hP PAY
        by_cases hlt : m < (De.dueL L day).length
        · have hL0 : 0 < L.length := by omega
          obtain ⟨e, hg1, hg2⟩ := HG.out hL0
          subst e
          obtain ⟨hiL, hsame, hinv⟩ := PP.out.inv.step R.out.fine OK.out (show m < (De.ord L day).length by rw [hol.out]; exact hlt)
          obtain ⟨i, hi⟩ : ∃ i, (De.ord L day)[m]'(by rw [hol.out]; exact hlt) = i := ⟨_, rfl⟩
          rw [hi] at hiL hsame hinv
          have hgi : (De.ord L day).getD m 0 = i := by rw [← hi]; simp [List.getD_eq_getElem?_getD, show m < (De.ord L day).length by rw [hol.out]; exact hlt]
          obtain ⟨rc, rf⟩ := (PP.out.row (by omega)).2 m hlt
          replace rc : wr.cell? ⟨ob, m, none⟩ = some (.pointer (some ⟨gb, (De.ord L day).getD m 0 * 5, none⟩)) := rc
          rw [hgi] at rc
          obtain ⟨g2, e2, -⟩ := HV2.out.at (k := 0) (by unfold ptrs; rw [List.length_map, List.length_map]; omega)
          obtain rfl := HOBP.out g2 e2
          subst e2
          obtain ⟨g3, e3, -, -, -, hc, hf, hset⟩ := PP.out.own.at (show i < M.length by rw [hML.out]; exact hiL)
          cases e3
          have hgood := (R.out.each _ (De.g_mem hiL)).2.2
          rw [← hsame] at hgood
          have HS := Lib.hid (hset 4)
          have hD : DAt wr gb (i * 5) (De.g M i) := DAt.of (by rw [De.g_eq (show i < M.length by rw [hML.out]; exact hiL)]; exact hc)
          have hfz := hf (i * 5 + 4)
          rw [← De.g_eq (show i < M.length by rw [hML.out]; exact hiL)] at HS
          obtain ⟨d, hd⟩ : ∃ d, De.g M i = d := ⟨_, rfl⟩
          rw [hd] at hD hgood HS hinv
          have hl0 : 1 ≤ d.left ∧ d.left ≤ 68719476736 := by unfold De.good at hgood; omega
          obtain ⟨hl1, hl2⟩ := hl0
          obtain ⟨c0, c1', c2', c3, c4⟩ := hD
          have HINV := Lib.hid hinv
          have hob2 := HOBS.out (by omega)
          have hk0 : (0 : Int) ≤ (m : Int) := Int.natCast_nonneg _
          have hk1 : (m : Int) < ((De.dueL L day).length : Int) := by omega
          have hn1 : ¬ gb = g2 := by omega
          have hn2 : ¬ g2 = gb := by omega
          clear hc hf hset hgi hi hd hsame hinv hgood rf
          go_wp2
          have hX : min amt d.left ≤ amt ∧ 0 ≤ min amt d.left := by omega
          have PN := Lib.hid (show Pays w (wr.setCell ⟨gb, i * 5 + 4, none⟩ (.int .i64 (d.left - min amt d.left))) farm next (some ⟨gb, 0, none⟩) c1 gb g2 w1.heap.size (w.heap.size + 1) ((w.alloc (Obj.cells #[.int .i64 farm, .slice p L.length cap, .int .i64 next] 42)).alloc (Obj.cells #[.int .i64 0, .slice none 0 0, .int .i64 0] 42)).heap.size (De.dueL L day).length L (M.set i { d with left := d.left - min amt d.left }) (De.ord L day) day amount (amt - min amt d.left) (m + 1) from
            ⟨HINV.out, HS.out _ { d with left := d.left - min amt d.left } (by decide) rfl, PP.out.box.other (by omega) _, PP.out.res.other (by simp at hg1; omega) _, fun h => (PP.out.row h).other (by omega) _, PP.out.below.setCell (by simp at hg1; show w.heap.size ≤ gb; omega) _, by have := PP.out.size; simpa [World.setCell] using this⟩)
          go_roundw
          case rel => exact ⟨m + 1, _, _, by omega, by go_num, rfl, by omega, PN.out⟩
          case measure => simp [intOf]; omega
        · obtain rfl : m = (De.dueL L day).length := by omega
          have hinv := PP.out.inv
          rw [← hol.out] at hinv
          have OFF := Lib.hid (hinv.fin OK.out)
          have dz := delz_any ((w.alloc (Obj.cells #[.int .i64 farm, .slice p L.length cap, .int .i64 next] 42)).alloc (Obj.cells #[.int .i64 0, .slice none 0 0, .int .i64 0] 42)).heap.size p1 M c1 wr (by rw [hML.out]; exact PP.out.own) PP.out.size
          rw [hML.out] at dz
          have DZ := Lib.hid dz
          obtain ⟨b0, b1, b2, bf0, bf1, bf2, blt⟩ := PP.out.box
          clear hinv dz hlt
          go_wp2_with fail
          go_at_call 66
          refine Calls.mono DZ.out ?_
          rintro e w9 ⟨rfl, hO9, hB9, hf9⟩
          have hs9 := hB9.size
          have hbne : (Value.slice p1 (De.nz M).length c1).ownBlock ≠ some w1.heap.size := fun e => by
            have h1 := HOB.out w1.heap.size (by cases p1 with
              | none => simp [Value.ownBlock] at e
              | some a => simpa [Value.ownBlock] using e)
            omega
          have hrne : (Value.slice p1 (De.nz M).length c1).ownBlock ≠ some (w.heap.size + 1) := hO9.notBlock (by simp <;> omega)
          obtain ⟨b0, b1, b2, bf0, bf1, bf2, blt⟩ := PP.out.box.blk (hf9 _ PP.out.box.lt hbne) hs9
          obtain ⟨r0, r1, r2, rf0, rf1, rf2, rlt⟩ := PP.out.res.blk (hf9 _ PP.out.res.lt hrne) hs9
          have OF := Lib.hid (((hO9.setOther hbne (.slice p1 (De.nz M).length c1) (i := 1)).setTo (w.heap.size + 1) (by simp <;> omega) (.int .i64 farm) (.slice p1 (De.nz M).length c1) (.int .i64 next)).mono (B' := w.heap.size) (by simp <;> omega))
          have BF := Lib.hid (bsetTo ((PP.out.below.trans (hB9.mono (by simp <;> omega))).setCell (p := ⟨w1.heap.size, 1, none⟩) (by show w.heap.size ≤ w1.heap.size; omega) (.slice p1 (De.nz M).length c1)) (w.heap.size + 1) (by omega) (.int .i64 farm) (.slice p1 (De.nz M).length c1) (.int .i64 next))
          have hn3 : w1.heap.size ≠ w.heap.size + 1 := by omega
          have hn4 : w.heap.size + 1 ≠ w1.heap.size := by omega
          clear hO9 hB9 hf9 hbne hrne
          go_wp2
          obtain ⟨pz, cz, ez, hz⟩ := OF.out.lies (p0 := p) BF.out
          cases ez
          exact bodyPost_ret (v := .tuple #[.agg #[.int .i64 farm, .slice p1 (De.nz M).length c1, .int .i64 next], .int .i64 amt, .int .i64 0]) (by simp [results, Try.results28, go_sem, r0, r1, r2]) rfl ⟨_, _, _, _, rfl, OFF.out, hz⟩

end Go.Proofs.Ytdnddikchchdkaa
