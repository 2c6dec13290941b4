/-
  THE WALK over law39.DebtWaives.
-/
import Derived.Test.YtdnddikchchdkaaD29
import Derived.Test.YtdnddikchchdkaaD17
import Derived.Deep.DeepCutAuto
namespace Go.Proofs.Ytdnddikchchdkaa
open Go.RowKit

structure Waived (farm next : Int) (L L' : List De.Dbt) (x : De.Dbt) (n : Int) : Prop where
  right : De.Right farm L' next
  sum : De.sum L' = De.sum L - n
  one : De.fnd L' x.num = x.left - n
  oth : ∀ j, j < L.length → (De.g L j).num ≠ x.num → De.fnd L' (De.g L j).num = (De.g L j).left
  intr : ∀ at_ mille : Int, 0 ≤ at_ ∧ at_ ≤ 36864 → 0 ≤ mille ∧ mille ≤ 1000 → De.intr at_ mille L' ≤ De.intr at_ mille L

theorem waive_plain {farm next : Int} {L : List De.Dbt} (hR : De.Right farm L next) {i : Nat} {x : De.Dbt} (hi : i < L.length) (ex : De.g L i = x) {n : Int} (h1 : 1 ≤ n) (h2 : n ≤ x.left) :
    De.wErr farm L next x.num n = 0 ∧ ∃ L', De.wList farm L next x.num n = L' ∧ Waived farm next L L' x n := by
  have hx : x ∈ L := ex ▸ De.g_mem hi
  have hf := De.fnd_mem hR.asc hx
  have he : De.wErr farm L next x.num n = 0 := by
    unfold De.wErr
    rw [De.chk_ok hR, if_neg (by simp), if_neg (fun k => k ⟨i, hi, by rw [ex]⟩), hf, if_neg (by omega)]
  refine ⟨he, _, rfl, ?_⟩
  have e : De.wList farm L next x.num n = De.nz (De.upd L x.num (x.left - n)) := by unfold De.wList; rw [he, if_neg (by simp), hf]
  rw [e]
  have hfine := hR.fine.step (n := x.num) (x := x.left - n) (by omega)
  have hle : ∀ d ∈ L, d.num = x.num → x.left - n ≤ d.left := fun d hd hn => by obtain rfl := hR.asc.inj hd hx hn; omega
  have hasc : De.Asc (De.nz (De.upd L x.num (x.left - n))) := hfine.asc
  refine ⟨hR.under (De.Under.step hle) hfine, ?_, ?_, fun j hj hne => ?_, fun at_ mille t0 m0 => ?_⟩
  · rw [De.sum_nz, De.sum_upd hR.asc hx]; omega
  · by_cases hz : x.left - n = 0
    · rw [hz]
      refine De.fnd_none fun d hd hn => ?_
      obtain ⟨g1, g2⟩ := De.mem_nz.1 hd
      obtain ⟨y, hy, rfl⟩ := De.mem_upd.1 g1
      rw [De.put_num] at hn
      rw [De.put_eq hn] at g2
      exact g2 rfl
    · exact De.fnd_mem hasc (De.mem_step hx hz)
  · have hy := De.g_mem hj
    have := hR.fine.pos _ hy
    exact De.fnd_mem hasc (De.mem_other hy hne (by omega))
  · rw [De.intr_nz]
    exact De.intr_upd (hR.intOk t0 m0) hle

theorem int_ok {farm next at_ mille : Int} {L : List De.Dbt} (hR : De.Right farm L next) (t0 : 0 ≤ at_ ∧ at_ ≤ 36864) (m0 : 0 ≤ mille ∧ mille ≤ 1000) : iErr farm L next at_ mille = 0 ∧ iVal farm L next at_ mille = De.intr at_ mille L := by
  have h : iErr farm L next at_ mille = 0 := by unfold iErr; rw [De.chk_ok hR, De.dayB_iff.2 t0, if_neg (by simp), if_neg (by simp), if_neg (by omega)]
  exact ⟨h, by unfold iVal; rw [h, if_neg (by simp)]⟩

theorem waive_none {farm next n amount : Int} (hR : De.Right farm [] next) : De.wErr farm [] next n amount = 71 := by
  unfold De.wErr
  rw [De.chk_ok hR, if_neg (by simp), if_pos]
  rintro ⟨i, hi, -⟩
  simp at hi

theorem DAt.but {w w' : World} {t b o : Nat} {d : De.Dbt} (h : DAt w b o d) (hb : But t w w') (hl : b < w.heap.size) (hn : b ≠ t) : DAt w' b o d :=
  ⟨(hb.cell (p := ⟨b, o, none⟩) hl hn).trans h.c0, (hb.cell (p := ⟨b, o + 1, none⟩) hl hn).trans h.c1, (hb.cell (p := ⟨b, o + 2, none⟩) hl hn).trans h.c2, (hb.cell (p := ⟨b, o + 3, none⟩) hl hn).trans h.c3, (hb.cell (p := ⟨b, o + 4, none⟩) hl hn).trans h.c4⟩

theorem AccAt.but {w w' : World} {t bx : Nat} {farm next : Int} {p : Option Addr} {c : Nat} {L : List De.Dbt} (h : AccAt w bx farm next p c L) (hb : But t w w') (hn : bx ≠ t) (hp : ∀ a, p = some a → a.block ≠ t) : AccAt w' bx farm next p c L :=
  ⟨h.box.but hb hn, h.recs.but hb hp, h.nil⟩

theorem keep6 {w : World} {bx b o c n : Nat} {farm next : Int} {p : Option Addr} {d : De.Dbt} (h : BoxA w bx farm p n c next) (e : DAt w b o d) (hb : b < w.heap.size) (x : Obj) :
    (w.alloc x).cell? ⟨bx, 1, none⟩ = some (.slice p n c) ∧ (w.alloc x).cell? ⟨b, o, none⟩ = some (.int .i64 d.num) ∧ (w.alloc x).cell? ⟨b, o + 1, none⟩ = some (.int .i64 d.dec) ∧ (w.alloc x).cell? ⟨b, o + 2, none⟩ = some (.int .i64 d.due) ∧ (w.alloc x).cell? ⟨b, o + 3, none⟩ = some (.int .i64 d.amt) ∧ (w.alloc x).cell? ⟨b, o + 4, none⟩ = some (.int .i64 d.left) := by
  have hb1 : Below w.heap.size w (w.alloc x) := (Below.refl _ _).alloc (Nat.le_refl _) _
  obtain ⟨e0, e1, e2, e3, e4⟩ := e.below hb1 hb
  exact ⟨(h.below hb1 h.lt).a1, e0, e1, e2, e3, e4⟩

theorem keepc {w : World} {bx b o c n : Nat} {farm next : Int} {p : Option Addr} {d : De.Dbt} (h : BoxA w bx farm p n c next) (e : DAt w b o d) :
    w.cell? ⟨bx, 1, none⟩ = some (.slice p n c) ∧ w.cell? ⟨b, o, none⟩ = some (.int .i64 d.num) ∧ w.cell? ⟨b, o + 1, none⟩ = some (.int .i64 d.dec) ∧ w.cell? ⟨b, o + 2, none⟩ = some (.int .i64 d.due) ∧ w.cell? ⟨b, o + 3, none⟩ = some (.int .i64 d.amt) ∧ w.cell? ⟨b, o + 4, none⟩ = some (.int .i64 d.left) :=
  ⟨h.a1, e.c0, e.c1, e.c2, e.c3, e.c4⟩

theorem kl {w : World} {bz ba bx n n' c c' : Nat} {farm next : Int} {p p' : Option Addr} {d : De.Dbt} (h : BoxA w bz farm p n c next) (k : BoxA w ba farm p' n' c' next) (e : DAt w bx 0 d) :
    w.cell? ⟨bz, 0, none⟩ = some (.int .i64 farm) ∧ w.cell? ⟨bz, 1, none⟩ = some (.slice p n c) ∧ w.cell? ⟨bz, 2, none⟩ = some (.int .i64 next) ∧ w.cell? ⟨ba, 0, none⟩ = some (.int .i64 farm) ∧ w.cell? ⟨ba, 1, none⟩ = some (.slice p' n' c') ∧ w.cell? ⟨ba, 2, none⟩ = some (.int .i64 next) ∧ w.cell? ⟨bx, 0, none⟩ = some (.int .i64 d.num) ∧ w.cell? ⟨bx, 4, none⟩ = some (.int .i64 d.left) :=
  ⟨h.a0, h.a1, h.a2, k.a0, k.a1, k.a2, e.c0, e.c4⟩

theorem kl2 {w : World} {bz bx by_ n c : Nat} {farm next : Int} {p : Option Addr} {d e : De.Dbt} (h : BoxA w bz farm p n c next) (x : DAt w bx 0 d) (y : DAt w by_ 0 e) :
    w.cell? ⟨bz, 0, none⟩ = some (.int .i64 farm) ∧ w.cell? ⟨bz, 1, none⟩ = some (.slice p n c) ∧ w.cell? ⟨bz, 2, none⟩ = some (.int .i64 next) ∧ w.cell? ⟨bx, 0, none⟩ = some (.int .i64 d.num) ∧ w.cell? ⟨by_, 0, none⟩ = some (.int .i64 e.num) ∧ w.cell? ⟨by_, 4, none⟩ = some (.int .i64 e.left) :=
  ⟨h.a0, h.a1, h.a2, x.c0, y.c0, y.c4⟩

/-- A debt is stored into a variable. -/
structure ZBox (w : World) (b : Nat) : Prop where
  c0 : w.cell? ⟨b, 0, none⟩ = some (.int .i64 0)
  c1 : w.cell? ⟨b, 1, none⟩ = some (.int .i64 0)
  c2 : w.cell? ⟨b, 2, none⟩ = some (.int .i64 0)
  c3 : w.cell? ⟨b, 3, none⟩ = some (.int .i64 0)
  c4 : w.cell? ⟨b, 4, none⟩ = some (.int .i64 0)
  f0 : w.frozen? ⟨b, 0, none⟩ = false
  f1 : w.frozen? ⟨b, 1, none⟩ = false
  f2 : w.frozen? ⟨b, 2, none⟩ = false
  f3 : w.frozen? ⟨b, 3, none⟩ = false
  f4 : w.frozen? ⟨b, 4, none⟩ = false
  lt : b < w.heap.size

theorem ZBox.new (w : World) (T : TypeId) : ZBox (w.alloc (.cells #[.int .i64 0, .int .i64 0, .int .i64 0, .int .i64 0, .int .i64 0] T)) w.heap.size :=
  ⟨by go_simp, by go_simp, by go_simp, by go_simp, by go_simp, by go_simp, by go_simp, by go_simp, by go_simp, by go_simp, by simp⟩

theorem ZBox.blk {w w' : World} {b : Nat} (h : ZBox w b) (e : w'.heap[b]? = w.heap[b]?) (hs : w.heap.size ≤ w'.heap.size) : ZBox w' b := by
  have hc : ∀ i, w'.cell? ⟨b, i, none⟩ = w.cell? ⟨b, i, none⟩ := fun i => World.cell?_of_block (w := w) e
  have hf : ∀ i, w'.frozen? ⟨b, i, none⟩ = w.frozen? ⟨b, i, none⟩ := fun i => by simp only [World.frozen?, e]
  obtain ⟨c0, c1, c2, c3, c4, f0, f1, f2, f3, f4, lt⟩ := h
  exact ⟨(hc 0).trans c0, (hc 1).trans c1, (hc 2).trans c2, (hc 3).trans c3, (hc 4).trans c4, (hf 0).trans f0, (hf 1).trans f1, (hf 2).trans f2, (hf 3).trans f3, (hf 4).trans f4, Nat.lt_of_lt_of_le lt hs⟩

abbrev set5 (w : World) (b : Nat) (d : De.Dbt) : World := ((((w.setCell ⟨b, 0, none⟩ (.int .i64 d.num)).setCell ⟨b, 1, none⟩ (.int .i64 d.dec)).setCell ⟨b, 2, none⟩ (.int .i64 d.due)).setCell ⟨b, 3, none⟩ (.int .i64 d.amt)).setCell ⟨b, 4, none⟩ (.int .i64 d.left)

theorem ZBox.to {w : World} {b : Nat} (h : ZBox w b) (d : De.Dbt) : DAt (set5 w b d) b 0 d := by
  obtain ⟨c0, c1, c2, c3, c4, f0, f1, f2, f3, f4, lt⟩ := h
  unfold set5
  exact ⟨by go_simp, by go_simp, by go_simp, by go_simp, by go_simp⟩

theorem set5_below {w w' : World} {B b : Nat} (h : Below B w w') (hb : B ≤ b) (d : De.Dbt) : Below B w (set5 w' b d) :=
  ((((h.setCell (p := ⟨b, 0, none⟩) hb _).setCell (p := ⟨b, 1, none⟩) hb _).setCell (p := ⟨b, 2, none⟩) hb _).setCell (p := ⟨b, 3, none⟩) hb _).setCell (p := ⟨b, 4, none⟩) hb _

theorem AccAt.set5 {w : World} {bx b : Nat} {farm next : Int} {p : Option Addr} {c : Nat} {L : List De.Dbt} (h : AccAt w bx farm next p c L) (hn : b ≠ bx) (hp : ∀ a, p = some a → a.block ≠ b) (d : De.Dbt) : AccAt (set5 w b d) bx farm next p c L :=
  ⟨((((h.box.other hn _).other hn _).other hn _).other hn _).other hn _, ((((h.recs.set b 0 _ hp).set b 1 _ hp).set b 2 _ hp).set b 3 _ hp).set b 4 _ hp, h.nil⟩

theorem keep6s {w : World} {bx b b2 o c n : Nat} {farm next : Int} {p : Option Addr} {d : De.Dbt} (h : BoxA w bx farm p n c next) (e : DAt w b o d) (h1 : b2 ≠ bx) (h2 : b2 ≠ b) :
    (set5 w b2 d).cell? ⟨bx, 1, none⟩ = some (.slice p n c) ∧ (set5 w b2 d).cell? ⟨b, o, none⟩ = some (.int .i64 d.num) ∧ (set5 w b2 d).cell? ⟨b, o + 1, none⟩ = some (.int .i64 d.dec) ∧ (set5 w b2 d).cell? ⟨b, o + 2, none⟩ = some (.int .i64 d.due) ∧ (set5 w b2 d).cell? ⟨b, o + 3, none⟩ = some (.int .i64 d.amt) ∧ (set5 w b2 d).cell? ⟨b, o + 4, none⟩ = some (.int .i64 d.left) := by
  have hk : ∀ (w : World) (i : Nat) (u : Value) (b' : Nat), b2 ≠ b' → (w.setCell ⟨b2, i, none⟩ u).heap[b']? = w.heap[b']? := fun w i u b' hn => by simp [World.setCell, Array.getElem?_modify, hn]
  have hc : ∀ b' i, b2 ≠ b' → (set5 w b2 d).cell? ⟨b', i, none⟩ = w.cell? ⟨b', i, none⟩ := fun b' i hn => World.cell?_of_block (w := w) (by unfold set5; rw [hk _ _ _ _ hn, hk _ _ _ _ hn, hk _ _ _ _ hn, hk _ _ _ _ hn, hk _ _ _ _ hn])
  exact ⟨(hc _ _ h1).trans h.a1, (hc _ _ h2).trans e.c0, (hc _ _ h2).trans e.c1, (hc _ _ h2).trans e.c2, (hc _ _ h2).trans e.c3, (hc _ _ h2).trans e.c4⟩

set_option maxRecDepth 100000 in
set_option maxHeartbeats 16000000 in
theorem debtWaives_walk (a : Option Addr) (len cap : Nat) (z : List Int) (x y : Int) (w : World) (w0 : IsRow .i64 w a len cap z) (w1 : (Lit.int .u16 x).wf = true) (w2 : (Lit.int .u8 y).wf = true) :
    Calls Try.prog 8 #[.slice a len cap, .int .u16 x, .int .u8 y] w fun e w' => e = .returned (.bool true) ∧ Below w.heap.size w w' := by
  obtain ⟨x0, x1⟩ := bd_u16 w1
  obtain ⟨y0, y1⟩ := bd_u8 w2
  have HN := Lib.hid (new_any a len cap z w w0)
  clear w0 w1 w2
  generalize (z.take len).take 400 = l at *
  have AC := Lib.hid (fun (W : World) (h : TapeAt W w.heap.size l 0) => account39_any w.heap.size l 0 W h)
  have AI := Lib.hid (fun (farm next : Int) (p : Option Addr) (L : List De.Dbt) (c : Nat) (W : World) => interest39_any farm next p L c 400 y W)
  have AF := Lib.hid (fun (farm next : Int) (p : Option Addr) (L : List De.Dbt) (c : Nat) (num : Int) (W : World) => find39_any farm next p L c num W)
  have AW := Lib.hid (fun (farm next : Int) (p : Option Addr) (L : List De.Dbt) (c : Nat) (n amount : Int) (W : World) => waive39_any farm next p L c n amount W)
  have AD := Lib.hid (fun (farm next : Int) (p : Option Addr) (L : List De.Dbt) (c : Nat) (W : World) => owed39_any farm next p L c W)
  unfold accV at AI AF AW AD
  go_enter Try.func8, Try.ntmps8
  go_upto_region 3 with (first | (go_at_call 10; refine (HN.out).mono ?_; rintro e w1 ⟨rfl, ht, hb1⟩) | (go_at_call 27; refine Calls.mono (AC.out _ ht) ?_; rintro e w2 ⟨farm, p, L, ca, next, q, rfl, hR, hD, hnil, hnew, ht2, hbt⟩; unfold accV; have H3' := AccAt.new (farm := farm) (next := next) hD hnil 42; have H3 := Lib.hid H3'; have B3 := Lib.hid (balloc (Nat.le_refl _) (hb1.trans (hbt.below (Nat.le_refl _) hb1.size)) (Obj.cells #[.int .i64 farm, .slice p L.length ca, .int .i64 next] 42)); have hl40 := hR.len; have RR := Lib.hid hR))
  cases hL0 : ((L.length : Int) == 0)
  rotate_left
  · obtain rfl : L = [] := List.length_eq_zero_iff.1 (by have := beq_iff_eq.1 hL0; omega)
    have WN := Lib.hid (AW.out farm next p [] ca 1 1 _ H3.out.recs hnil (by omega) (by omega))
    rw [waive_none RR.out] at WN
    have le := Nat.le_refl w.heap.size
    clear AC AI AF AW AD ht hb1 ht2 hbt hD hnew H3' hR HN H3 hL0
    go_wp2_with (first | (go_at_call 40; (with_reducible refine Calls.mono WN.out ?_); rintro e w4 ⟨pb, cb, rfl, hlb⟩; unfold accV) | (go_at_call 32; refine (awake39_any _).mono ?_; rintro e w9 ⟨rfl, hb9⟩))
    go_ret
    exact ⟨rfl, bstep le (balloc le (bstep le B3.out hlb.below) _) hb9⟩
  have le := Nat.le_refl w.heap.size
  have hlen : 1 ≤ L.length := by rcases Nat.eq_zero_or_pos L.length with h | h; (· rw [h] at hL0; simp at hL0); exact h
  obtain ⟨g0, g1⟩ := gives_bd l q (n := (L.length : Int)) (by omega)
  obtain ⟨i, ei⟩ : ∃ i : Nat, gives l q (L.length : Int) = (i : Int) := Int.eq_ofNat_of_zero_le g0
  rw [ei] at g1
  have hi : i < L.length := by omega
  have NX := Lib.hid (fun (W : World) (h : TapeAt W w.heap.size l q) => ei ▸ next_any w.heap.size l q (L.length : Int) W h (by omega))
  have hl0 := ht.lt
  obtain ⟨b, off, xx, rfl, hbl, hD3, hd3⟩ := SD_at H3'.recs hi
  have hbt2 : b ≠ w.heap.size := by have := hnew ⟨b, off, none⟩ rfl; simp only at this; omega
  have HD3 := Lib.hid hD3
  obtain ⟨c0, c1, c2, c3, c4⟩ := hD3
  have hk0 : (0 : Int) ≤ (i : Int) := Int.natCast_nonneg _
  have hs2 := hbt.size
  obtain ⟨a0, a1, a2, -, -, -, a6⟩ := H3'.box
  have HT := Lib.hid ((ht2.below ((Below.refl _ _).alloc (Nat.le_refl _) (Obj.cells #[.int .i64 farm, .slice (some ⟨b, off, none⟩) L.length ca, .int .i64 next] 42))).below ((Below.refl _ _).drew))
  have HA := Lib.hid (H3'.below ((Below.refl _ _).drew))
  have HE := Lib.hid (HD3.out.below ((Below.refl _ _).drew) hbl)
  have hba : Below (w2.alloc (Obj.cells #[.int .i64 farm, .slice (some ⟨b, off, none⟩) L.length ca, .int .i64 next] 42)).heap.size (w2.alloc (Obj.cells #[.int .i64 farm, .slice (some ⟨b, off, none⟩) L.length ca, .int .i64 next] 42)) ((w2.alloc (Obj.cells #[.int .i64 farm, .slice (some ⟨b, off, none⟩) L.length ca, .int .i64 next] 42)).alloc (Obj.cells #[.int .i64 0, .int .i64 0, .int .i64 0, .int .i64 0, .int .i64 0] 49)) := (Below.refl _ _).alloc (Nat.le_refl _) _
  have hbd : Below ((w2.alloc (Obj.cells #[.int .i64 farm, .slice (some ⟨b, off, none⟩) L.length ca, .int .i64 next] 42)).alloc (Obj.cells #[.int .i64 0, .int .i64 0, .int .i64 0, .int .i64 0, .int .i64 0] 49)).heap.size ((w2.alloc (Obj.cells #[.int .i64 farm, .slice (some ⟨b, off, none⟩) L.length ca, .int .i64 next] 42)).alloc (Obj.cells #[.int .i64 0, .int .i64 0, .int .i64 0, .int .i64 0, .int .i64 0] 49)) ((w2.alloc (Obj.cells #[.int .i64 farm, .slice (some ⟨b, off, none⟩) L.length ca, .int .i64 next] 42)).alloc (Obj.cells #[.int .i64 0, .int .i64 0, .int .i64 0, .int .i64 0, .int .i64 0] 49)).drew := (Below.refl _ _).drew
  have HT2 := Lib.hid (((ht2.below ((Below.refl _ _).alloc (Nat.le_refl _) (Obj.cells #[.int .i64 farm, .slice (some ⟨b, off, none⟩) L.length ca, .int .i64 next] 42))).below hba).below hbd)
  have HA2 := Lib.hid ((H3'.below hba).below hbd)
  have HE2 := Lib.hid ((HD3.out.below hba hbl).below hbd (by simp; simp at hbl; omega))
  have ZB := Lib.hid ((ZBox.new (w2.alloc (Obj.cells #[.int .i64 farm, .slice (some ⟨b, off, none⟩) L.length ca, .int .i64 next] 42)) 49).blk (hbd.block _ (by simp)) hbd.size)
  simp only [World.size_alloc] at ZB
  have KA := Lib.hid (keepc HA.out.box HE.out)
  have KZ := Lib.hid (keepc HA2.out.box HE2.out)
  have hblt : b < w2.heap.size + 1 := by simpa using hbl
  have hbne : b ≠ w2.heap.size := by
    rcases hD.apart with e | h
    · rw [e] at hlen; simp at hlen
    · have := h ⟨b, off, none⟩ rfl; simp only at this; omega
  clear ht hb1 ht2 hbt hD hnew H3' hR HN H3 hL0 AC ei g0 HD3 hba hbd
  go_upto_region 6 with fail
  go_cut [11] (fun s11 wx => ∃ bx : Nat, s11 = .pointer (some ⟨bx, 0, none⟩) ∧ AccAt wx w2.heap.size farm next (some ⟨b, off, none⟩) ca L ∧ DAt wx bx 0 xx ∧ Below w.heap.size w wx ∧ bx < wx.heap.size ∧ w.heap.size ≤ bx ∧ bx ≠ w2.heap.size)
  case first =>
    go_region_held3 (fun w' => w'.cell? ⟨w2.heap.size, 1, none⟩ = some (.slice (some ⟨b, off, none⟩) L.length ca) ∧ w'.cell? ⟨b, off + i * 5, none⟩ = some (.int .i64 xx.num) ∧ w'.cell? ⟨b, off + i * 5 + 1, none⟩ = some (.int .i64 xx.dec) ∧ w'.cell? ⟨b, off + i * 5 + 2, none⟩ = some (.int .i64 xx.due) ∧ w'.cell? ⟨b, off + i * 5 + 3, none⟩ = some (.int .i64 xx.amt) ∧ w'.cell? ⟨b, off + i * 5 + 4, none⟩ = some (.int .i64 xx.left)) (first | with_reducible exact KA.out | with_reducible exact KZ.out | with_reducible exact K5.out | with_reducible exact KP.out _ | with_reducible exact KP.out) (first | (go_at_call 11; (with_reducible refine Calls.mono (NX.out _ HT.out) ?_); rintro e w5 ⟨rfl, ht5, hb5⟩; have A5 := Lib.hid (HA.out.but hb5 (by omega) (fun a e => by cases e; exact hbt2)); have E5 := Lib.hid (HE.out.but hb5 hbl hbt2); have K5 := Lib.hid (keepc A5.out.box E5.out); have KP := Lib.hid (fun (x : Obj) => keep6 A5.out.box E5.out (Nat.lt_of_lt_of_le hbl hb5.size) x)) | (go_at_call 11; (with_reducible refine Calls.mono (NX.out _ HT2.out) ?_); rintro e w5 ⟨rfl, ht5, hb5⟩; have A5 := Lib.hid (HA2.out.but hb5 (by omega) (fun a e => by cases e; exact hbt2)); have E5 := Lib.hid (HE2.out.but hb5 (by simp; omega) hbt2); have Z5 := Lib.hid (ZB.out.blk (hb5.block _ (by simp) (by omega)) hb5.size); obtain ⟨k0, k1, k2, k3, k4, l0, l1, l2, l3, l4, l5⟩ := Z5.out; have K5 := Lib.hid (keepc A5.out.box E5.out); have KP := Lib.hid (keep6s A5.out.box E5.out (b2 := w2.heap.size + 1) (by omega) (by omega))))
    all_goals
      have hB5 : Below w.heap.size w w5 := by
        have hz := B3.out.size
        simp only [World.size_alloc] at hz
        first
          | exact B3.out.drew.trans (hb5.below (Nat.le_refl _) (by simp only [World.size_drew, World.size_alloc]; omega))
          | exact (balloc le B3.out _).drew.trans (hb5.below (Nat.le_refl _) (by simp only [World.size_drew, World.size_alloc]; omega))
      have hb5s := hb5.size
      simp only [World.size_drew, World.size_alloc] at hb5s
      have hz3 := B3.out.size
      simp only [World.size_alloc] at hz3
    all_goals
      first
        | (have A6 : AccAt (w5.alloc (Obj.cells #[.int .i64 xx.num, .int .i64 xx.dec, .int .i64 xx.due, .int .i64 xx.amt, .int .i64 xx.left] 49)) w2.heap.size farm next (some ⟨b, off, none⟩) ca L := A5.out.below ((Below.refl _ _).alloc (Nat.le_refl _) _)
           have X6 : DAt (w5.alloc (Obj.cells #[.int .i64 xx.num, .int .i64 xx.dec, .int .i64 xx.due, .int .i64 xx.amt, .int .i64 xx.left] 49)) w5.heap.size 0 xx := DAt.new w5 xx 49
           have B6 : Below w.heap.size w (w5.alloc (Obj.cells #[.int .i64 xx.num, .int .i64 xx.dec, .int .i64 xx.due, .int .i64 xx.amt, .int .i64 xx.left] 49)) := balloc le hB5 _
           have hbs : w5.heap.size < ((w5.alloc (Obj.cells #[.int .i64 xx.num, .int .i64 xx.dec, .int .i64 xx.due, .int .i64 xx.amt, .int .i64 xx.left] 49))).heap.size := by simp
           have hws : w.heap.size ≤ w5.heap.size := hB5.size
           have hne : w5.heap.size ≠ w2.heap.size := by omega
           obtain ⟨wz, ez⟩ : ∃ W : World, (w5.alloc (Obj.cells #[.int .i64 xx.num, .int .i64 xx.dec, .int .i64 xx.due, .int .i64 xx.amt, .int .i64 xx.left] 49)) = W := ⟨_, rfl⟩
           rw [ez] at A6 X6 B6 hbs ⊢
           clear ez hB5
           obtain ⟨bx, ex⟩ : ∃ k : Nat, w5.heap.size = k := ⟨_, rfl⟩
           rw [ex] at X6 hbs hws hne ⊢
           clear ex hb5s hz3)
        | (have A6 : AccAt (((((w5.setCell ⟨w2.heap.size + 1, 0, none⟩ (.int .i64 xx.num)).setCell ⟨w2.heap.size + 1, 1, none⟩ (.int .i64 xx.dec)).setCell ⟨w2.heap.size + 1, 2, none⟩ (.int .i64 xx.due)).setCell ⟨w2.heap.size + 1, 3, none⟩ (.int .i64 xx.amt)).setCell ⟨w2.heap.size + 1, 4, none⟩ (.int .i64 xx.left)) w2.heap.size farm next (some ⟨b, off, none⟩) ca L := A5.out.set5 (by omega) (fun a e => by cases e; show b ≠ w2.heap.size + 1; omega) xx
           have X6 : DAt (((((w5.setCell ⟨w2.heap.size + 1, 0, none⟩ (.int .i64 xx.num)).setCell ⟨w2.heap.size + 1, 1, none⟩ (.int .i64 xx.dec)).setCell ⟨w2.heap.size + 1, 2, none⟩ (.int .i64 xx.due)).setCell ⟨w2.heap.size + 1, 3, none⟩ (.int .i64 xx.amt)).setCell ⟨w2.heap.size + 1, 4, none⟩ (.int .i64 xx.left)) (w2.heap.size + 1) 0 xx := Z5.out.to xx
           have B6 : Below w.heap.size w (((((w5.setCell ⟨w2.heap.size + 1, 0, none⟩ (.int .i64 xx.num)).setCell ⟨w2.heap.size + 1, 1, none⟩ (.int .i64 xx.dec)).setCell ⟨w2.heap.size + 1, 2, none⟩ (.int .i64 xx.due)).setCell ⟨w2.heap.size + 1, 3, none⟩ (.int .i64 xx.amt)).setCell ⟨w2.heap.size + 1, 4, none⟩ (.int .i64 xx.left)) := set5_below hB5 (by omega) xx
           have hbs : w2.heap.size + 1 < ((((((w5.setCell ⟨w2.heap.size + 1, 0, none⟩ (.int .i64 xx.num)).setCell ⟨w2.heap.size + 1, 1, none⟩ (.int .i64 xx.dec)).setCell ⟨w2.heap.size + 1, 2, none⟩ (.int .i64 xx.due)).setCell ⟨w2.heap.size + 1, 3, none⟩ (.int .i64 xx.amt)).setCell ⟨w2.heap.size + 1, 4, none⟩ (.int .i64 xx.left))).heap.size := by have := Z5.out.lt; simpa [World.setCell] using this
           have hws : w.heap.size ≤ w2.heap.size + 1 := by omega
           have hne : w2.heap.size + 1 ≠ w2.heap.size := by omega
           obtain ⟨wz, ez⟩ : ∃ W : World, (((((w5.setCell ⟨w2.heap.size + 1, 0, none⟩ (.int .i64 xx.num)).setCell ⟨w2.heap.size + 1, 1, none⟩ (.int .i64 xx.dec)).setCell ⟨w2.heap.size + 1, 2, none⟩ (.int .i64 xx.due)).setCell ⟨w2.heap.size + 1, 3, none⟩ (.int .i64 xx.amt)).setCell ⟨w2.heap.size + 1, 4, none⟩ (.int .i64 xx.left)) = W := ⟨_, rfl⟩
           rw [ez] at A6 X6 B6 hbs ⊢
           clear ez hB5 k0 k1 k2 k3 k4 l0 l1 l2 l3 l4 l5 Z5 ZB hblt hs2 hbl
           obtain ⟨bx, ex⟩ : ∃ k : Nat, w2.heap.size + 1 = k := ⟨_, rfl⟩
           rw [ex] at X6 hbs hws hne ⊢
           clear ex hb5s hz3)
    all_goals
      go_wp2_with fail
      go_meet
      exact ⟨bx, rfl, A6, X6, B6, hbs, hws, hne⟩
  case rest =>
    obtain ⟨bx, rfl, A6, X6, B6, hbs, hws, hne⟩ := hcut
    obtain ⟨wz, rfl⟩ : ∃ W : World, W = wc := ⟨_, rfl⟩
    clear HA HE HT HA2 HE2 HT2 NX B3 a0 a1 a2 a6 c0 c1 c2 c3 c4 ZB KA KZ hblt hbne hs2 hbl
    obtain ⟨z1, z2⟩ : 1 ≤ xx.left ∧ xx.left ≤ 68719476736 := by
      have h1 := RR.out.fine.pos _ (De.g_mem hi)
      have h2 := (RR.out.each _ (De.g_mem hi)).2.2
      unfold De.good at h2
      rw [hd3.out] at h1 h2
      omega
    obtain ⟨hmm, m0, m1⟩ := tmod_u x0 (n := xx.left) (by omega)
    generalize x % xx.left = m at *
    have hzl : ¬ xx.left = 0 := by omega
    obtain ⟨we, L', eL, hW⟩ := waive_plain RR.out hi hd3.out (n := 1 + m) (by omega) (by omega)
    have WV := Lib.hid (AW.out farm next (some ⟨b, off, none⟩) L ca xx.num (1 + m) wz A6.recs (fun e => by cases e) (by omega) (by omega))
    rw [we, eL] at WV
    have HW := Lib.hid hW
    have HA := Lib.hid A6
    have HX := Lib.hid X6
    have HB := Lib.hid B6
    obtain ⟨a0, a1, a2, -, -, -, -⟩ := A6.box
    obtain ⟨c0, c1, c2, c3, c4⟩ := X6
    have hw0 : IntKind.i64.wrap (1 + m) = 1 + m := by rw [IntKind.wrap_i64]; omega
    clear we eL AW hW A6 B6
    go_wp2_with (first | (go_at_call 40; (with_reducible refine Calls.mono WV.out ?_); rintro e w7 ⟨pb, cb, rfl, hlb⟩; unfold accV))
    have hd8 : Below (w7.alloc (Obj.cells #[.int .i64 farm, .slice pb L'.length cb, .int .i64 next] 42)).heap.size (w7.alloc (Obj.cells #[.int .i64 farm, .slice pb L'.length cb, .int .i64 next] 42)) (w7.alloc (Obj.cells #[.int .i64 farm, .slice pb L'.length cb, .int .i64 next] 42)).drew := (Below.refl _ _).drew
    have hd7 : Below w7.heap.size w7 (w7.alloc (Obj.cells #[.int .i64 farm, .slice pb L'.length cb, .int .i64 next] 42)) := (Below.refl _ _).alloc (Nat.le_refl _) _
    have A8 := Lib.hid ((HA.out.below hlb.below).below hd7)
    have C8 := Lib.hid (AccAt.new (farm := farm) (next := next) hlb.recs hlb.nil 42)
    have hx7 := HX.out.below hlb.below hbs
    have hb7 : bx < w7.heap.size := Nat.lt_of_lt_of_le hbs hlb.below.size
    have X8 := Lib.hid (hx7.below hd7 hb7)
    have hb8 : bx < (w7.alloc (Obj.cells #[.int .i64 farm, .slice pb L'.length cb, .int .i64 next] 42)).heap.size := Nat.lt_of_lt_of_le hb7 hd7.size
    have B8 := Lib.hid (balloc le (bstep le HB.out hlb.below) (Obj.cells #[.int .i64 farm, .slice pb L'.length cb, .int .i64 next] 42))
    obtain ⟨sl, esl⟩ : ∃ x, De.sum L = x := ⟨_, rfl⟩
    have sl0 := RR.out.sum0
    have sb0 := HW.out.right.sum0
    rw [HW.out.sum, esl] at sb0
    rw [esl] at sl0
    have V1 := Lib.hid (fun (p : Option Addr) (c : Nat) (W : World) (h : Debts W p L') => by have k := AD.out farm next p L' c W h; rw [owed_ok HW.out.right, HW.out.sum, esl] at k; exact k)
    have V2 := Lib.hid (fun (p : Option Addr) (c : Nat) (W : World) (h : Debts W p L) => by have k := AD.out farm next p L c W h; rw [owed_ok RR.out, esl] at k; exact k)
    have V3 := Lib.hid (fun (p : Option Addr) (c : Nat) (W : World) (h : Debts W p L') => by have k := AF.out farm next p L' c xx.num W h; rw [HW.out.one] at k; exact k)
    have hv1 : IntKind.i64.wrap (sl - (1 + m)) = sl - (1 + m) := by rw [IntKind.wrap_i64]; omega
    have hv2 : IntKind.i64.wrap (xx.left - (1 + m)) = xx.left - (1 + m) := by rw [IntKind.wrap_i64]; omega
    clear hd7 hx7 hb7 hlb WV HA HX HB AD esl sl0 sb0 hd8
    obtain ⟨bz, ebz⟩ : ∃ k : Nat, w7.heap.size = k := ⟨_, rfl⟩
    obtain ⟨wy, ey⟩ : ∃ W : World, (w7.alloc (Obj.cells #[.int .i64 farm, .slice pb L'.length cb, .int .i64 next] 42)) = W := ⟨_, rfl⟩
    rw [ey] at A8 C8 X8 B8 hb8 ⊢
    rw [ebz] at C8 ⊢
    clear ey ebz a0 a1 a2 c0 c1 c2 c3 c4
    have KB := Lib.hid (And.intro C8.out.box.drew (And.intro A8.out.box.drew X8.out.drew))
    have A9 := Lib.hid (A8.out.below ((Below.refl _ _).drew))
    have C9 := Lib.hid (C8.out.below ((Below.refl _ _).drew))
    have X9 := Lib.hid X8.out.drew
    have L9 := Lib.hid (kl C9.out.box A9.out.box X9.out)
    clear KB
    go_region_held3 (fun w' => w'.cell? ⟨bz, 0, none⟩ = some (.int .i64 farm) ∧ w'.cell? ⟨bz, 1, none⟩ = some (.slice pb L'.length cb) ∧ w'.cell? ⟨bz, 2, none⟩ = some (.int .i64 next) ∧ w'.cell? ⟨w2.heap.size, 0, none⟩ = some (.int .i64 farm) ∧ w'.cell? ⟨w2.heap.size, 1, none⟩ = some (.slice (some ⟨b, off, none⟩) L.length ca) ∧ w'.cell? ⟨w2.heap.size, 2, none⟩ = some (.int .i64 next) ∧ w'.cell? ⟨bx, 0, none⟩ = some (.int .i64 xx.num) ∧ w'.cell? ⟨bx, 4, none⟩ = some (.int .i64 xx.left)) (first | with_reducible exact L9.out | with_reducible exact L10.out | with_reducible exact L11.out | with_reducible exact L12.out) (first | (go_at_call 29; (with_reducible refine Calls.mono (V1.out pb cb _ C9.out.recs) ?_); clear V1; rintro e w10 ⟨rfl, hb10⟩; have A10 := Lib.hid (A9.out.below hb10); have C10 := Lib.hid (C9.out.below hb10); have X10 := Lib.hid (X9.out.below hb10 hb8); have L10 := Lib.hid (kl C10.out.box A10.out.box X10.out)) | (go_at_call 29; (with_reducible refine Calls.mono (V2.out _ ca _ A10.out.recs) ?_); rintro e w11 ⟨rfl, hb11⟩; have A11 := Lib.hid (A10.out.below hb11); have C11 := Lib.hid (C10.out.below hb11); have X11 := Lib.hid (X10.out.below hb11 (Nat.lt_of_lt_of_le hb8 hb10.size)); have L11 := Lib.hid (kl C11.out.box A11.out.box X11.out)) | (go_at_call 34; (with_reducible refine Calls.mono (V3.out pb cb _ C11.out.recs) ?_); rintro e w12 ⟨rfl, hb12⟩; have A12 := Lib.hid (A11.out.below hb12); have C12 := Lib.hid (C11.out.below hb12); have X12 := Lib.hid (X11.out.below hb12 (Nat.lt_of_lt_of_le hb8 (Nat.le_trans hb10.size hb11.size))); have L12 := Lib.hid (kl C12.out.box A12.out.box X12.out)))
    have B12 := Lib.hid (bstep le (bstep le (bstep le (bstep le B8.out (drewN_below _ 1)) hb10) hb11) hb12)
    have hbx : bx < w12.heap.size := Nat.lt_of_lt_of_le hb8 (Nat.le_trans hb10.size (Nat.le_trans hb11.size hb12.size))
    clear A8 A9 A10 A11 C8 C9 C10 C11 X8 X9 X10 X11 L9 L10 L11 L12 hb10 hb11 hb12 V2 V3 hv1 hv2 B8 hb8
    obtain ⟨a0, a1, a2, -, -, -, -⟩ := A12.out.box
    go_wp2
    clear a0 a1 a2
    go_loopw [87] (fun i wr => ∃ k : Nat, k ≤ L.length ∧ i = .int .i64 k ∧ Below w12.heap.size w12 wr) (fun i _ => L.length - (intOf i).toNat)
    case atStart => exact ⟨0, Nat.zero_le _, rfl, Below.refl _ _⟩
    case round =>
      obtain ⟨k, hk, rfl, hb⟩ := hrel
      have HB := Lib.hid hb
      have GA := Lib.hid (A12.out.below hb)
      have GC := Lib.hid (C12.out.below hb)
      have GX := Lib.hid (X12.out.below hb hbx)
      have hsz := hb.size
      clear hb
      by_cases hlt : k < L.length
      · obtain ⟨b', off', yy, e', hbl', hD', hd'⟩ := SD_at GA.out.recs hlt
        simp only [Option.some.injEq, Addr.mk.injEq] at e'
        obtain ⟨rfl, rfl, -⟩ := e'
        obtain ⟨c0, c1, c2, c3, c4⟩ := hD'
        have hj0 : (0 : Int) ≤ (k : Int) := Int.natCast_nonneg _
        have hj1 : (k : Int) < (L.length : Int) := by omega
        have hba : Below wr.heap.size wr (wr.alloc (Obj.cells #[.int .i64 yy.num, .int .i64 yy.dec, .int .i64 yy.due, .int .i64 yy.amt, .int .i64 yy.left] 49)) := (Below.refl _ _).alloc (Nat.le_refl _) _
        have GC1 := Lib.hid (GC.out.below hba)
        have GX1 := Lib.hid (GX.out.below hba (by omega))
        have hfit : ∀ (h : yy.num ≠ xx.num), De.fnd L' yy.num = yy.left := fun h => by have := HW.out.oth k hlt (by rw [hd'.out]; exact h); rw [hd'.out] at this; exact this
        have HN := Lib.hid hfit
        clear hfit hba
        have YB := DAt.new wr yy 49
        have hbr : wr.heap.size < (wr.alloc (Obj.cells #[.int .i64 yy.num, .int .i64 yy.dec, .int .i64 yy.due, .int .i64 yy.amt, .int .i64 yy.left] 49)).heap.size := by simp
        cases z : (yy.num != xx.num)
        · obtain ⟨q0, q1, q2, q3, q4⟩ := YB
          obtain ⟨h0, h1, h2, h3, h4⟩ := GX1.out
          go_wp2_with fail
          go_quiet (fail)
          go_wp2
          go_roundw
          case rel => exact ⟨k + 1, by omega, by go_num, bstep (Nat.le_refl _) (balloc (Nat.le_refl _) HB.out (Obj.cells #[.int .i64 yy.num, .int .i64 yy.dec, .int .i64 yy.due, .int .i64 yy.amt, .int .i64 yy.left] 49)) (drewN_below _ _)⟩
          case measure => simp [intOf]; omega
        · have FY := Lib.hid (fun (p : Option Addr) (c : Nat) (W : World) (h : Debts W p L') => by have kk := AF.out farm next p L' c yy.num W h; rw [HN.out (by simpa using z)] at kk; exact kk)
          have C9 := Lib.hid (GC1.out.below ((Below.refl _ _).drew))
          have L9 := Lib.hid (kl2 C9.out.box GX1.out.drew YB.drew)
          obtain ⟨q0, q1, q2, q3, q4⟩ := YB
          obtain ⟨h0, h1, h2, h3, h4⟩ := GX1.out
          go_wp2_with fail
          go_region_held3 (fun w' => w'.cell? ⟨bz, 0, none⟩ = some (.int .i64 farm) ∧ w'.cell? ⟨bz, 1, none⟩ = some (.slice pb L'.length cb) ∧ w'.cell? ⟨bz, 2, none⟩ = some (.int .i64 next) ∧ w'.cell? ⟨bx, 0, none⟩ = some (.int .i64 xx.num) ∧ w'.cell? ⟨wr.heap.size, 0, none⟩ = some (.int .i64 yy.num) ∧ w'.cell? ⟨wr.heap.size, 4, none⟩ = some (.int .i64 yy.left)) (first | with_reducible exact L9.out | with_reducible exact L10.out) (first | (go_at_call 34; (with_reducible refine Calls.mono (FY.out pb cb _ C9.out.recs) ?_); rintro e w14 ⟨rfl, hb14⟩; have L10 := Lib.hid (kl2 (C9.out.below hb14).box (GX1.out.drew.below hb14 (by show _ < (wr.alloc (Obj.cells #[.int .i64 yy.num, .int .i64 yy.dec, .int .i64 yy.due, .int .i64 yy.amt, .int .i64 yy.left] 49)).heap.size; simp; omega)) ((DAt.new wr yy 49).drew.below hb14 hbr))))
          go_wp2
          go_roundw
          case rel => exact ⟨k + 1, by omega, by go_num, bstep (Nat.le_refl _) (bstep (Nat.le_refl _) (balloc (Nat.le_refl _) HB.out (Obj.cells #[.int .i64 yy.num, .int .i64 yy.dec, .int .i64 yy.due, .int .i64 yy.amt, .int .i64 yy.left] 49)) (drewN_below _ 1)) hb14⟩
          case measure => simp [intOf]; omega
      · obtain rfl : k = L.length := by omega
        have hle := HW.out.intr 400 y (by omega) (by omega)
        obtain ⟨i1, i2⟩ := int_ok (at_ := 400) (mille := y) RR.out (by omega) (by omega)
        obtain ⟨i3, i4⟩ := int_ok (at_ := 400) (mille := y) HW.out.right (by omega) (by omega)
        have I1 := Lib.hid (fun (p : Option Addr) (c : Nat) (W : World) (h : Debts W p L) => by have k := AI.out farm next p L c W h; rw [i1, i2] at k; exact k)
        have I2 := Lib.hid (fun (p : Option Addr) (c : Nat) (W : World) (h : Debts W p L') => by have k := AI.out farm next p L' c W h; rw [i3, i4] at k; exact k)
        generalize De.intr 400 y L = ia at *
        generalize De.intr 400 y L' = ib at *
        obtain ⟨a0, a1, a2, -, -, -, -⟩ := GA.out.box
        clear i1 i2 i3 i4
        go_wp2_with (first | (go_at_call 42; (with_reducible refine Calls.mono (I1.out _ ca _ GA.out.recs) ?_); clear I1; rintro e w15 ⟨rfl, hb15⟩; have C15 := Lib.hid (GC.out.below hb15); obtain ⟨e0, e1, e2, -, -, -, -⟩ := C15.out.box) | (go_at_call 42; (with_reducible refine Calls.mono (I2.out pb cb _ C15.out.recs) ?_); rintro e w16 ⟨rfl, hb16⟩) | (go_at_call 32; refine (awake39_any _).mono ?_; rintro e w17 ⟨rfl, hb17⟩))
        go_ret
        exact ⟨rfl, bstep le (bstep le (bstep le (bstep le B12.out HB.out) hb15) hb16) hb17⟩

end Go.Proofs.Ytdnddikchchdkaa
