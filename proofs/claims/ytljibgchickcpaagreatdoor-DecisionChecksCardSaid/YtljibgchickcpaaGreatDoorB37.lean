/- Packed. -/
import Derived.Test.YtljibgchickcpaaGreatDoorB36
set_option maxRecDepth 100000
set_option maxHeartbeats 8000000
open Go.Value renaming int → I
open Go.IntKind renaming i64 → O
namespace Go.Proofs.YtljibgchickcpaaGreatDoor
open Go.RowKit Sc As Dn
def SpG (t : Nat) (l : List Int) (w : World) (e : Ending) (w' : World) : Prop := ∃ (r : RD) (D : Dec) (q : Nat), e = .returned (.agg (dCells r).toArray) ∧ DO w.heap.size w' r D ∧ TpB w w' t l q
structure SpS (w W : World) (t : Nat) (l : List Int) (q g : Nat) (r : RD) (D : Dec) : Prop where
 tp : TpB w W t l q
 res : Blk W w.heap.size #[I O 0, I O 0, I O 0, .slice none 0 0, .slice none 0 0] 26
 bl : Blk W g (dCells r).toArray 26
 dO : DO (w.heap.size + 1) W r D
 hg : w.heap.size < g
 gA : ∀ i, (Value.slice r.ap r.an r.ac).ownBlock = some i → i ≠ g
 gR : ∀ i, (Value.slice r.rp r.rn r.rc).ownBlock = some i → i ≠ g
theorem SpS.tg {w W : World} {t q g : Nat} {l : List Int} {r : RD} {D : Dec} (h : SpS w W t l q g r D) : t < w.heap.size := h.tp.lt
theorem SpS.next {w W W' : World} {t q q' g : Nat} {l : List Int} {r : RD} {D : Dec} (h : SpS w W t l q g r D) (ht : TapeAt W' t l q') (hb : But t W W') : SpS w W' t l q' g r D :=
 ⟨h.tp.next ht hb, h.res.but hb (Nat.ne_of_gt h.tg), h.bl.but hb (Nat.ne_of_gt (Nat.lt_trans h.tg h.hg)), h.dO.but hb (Nat.lt_succ_of_lt h.tg), h.hg, h.gA, h.gR⟩
theorem SpS.row {w W : World} {t q g : Nat} {l : List Int} {r r' : RD} {D D' : Dec} (h : SpS w W t l q g r D) (i : Nat) (u : Value) (hc : (dCells r').toArray = (dCells r).toArray.setIfInBounds i u)
  (h1 : r'.year = D'.year) (h2 : r'.farm = D'.farm) (h3 : r'.ver = D'.ver) (ea : (r'.ap = r.ap ∧ r'.an = r.an ∧ r'.ac = r.ac ∧ D'.aw = D.aw) ∨ (r'.ap = none ∧ r'.an = 0 ∧ r'.ac = 0 ∧ D'.aw = [])) (er : r'.rp = r.rp ∧ r'.rn = r.rn ∧ r'.rc = r.rc ∧ D'.rs = D.rs) :
  SpS w (W.setCell ⟨g, i, none⟩ u) t l q g r' D' := by
 obtain ⟨y', f', v', ap', an', ac', rp', rn', rc'⟩ := r'; obtain ⟨e1, e2, e3, e4⟩ := er; simp only at e1 e2 e3 ea h1 h2 h3; subst e1 e2 e3; have hR : OwnR SRn (W.setCell ⟨g, i, none⟩ u) 76 (w.heap.size + 1) (.slice r.rp r.rn r.rc) D'.rs := by rw [e4]; exact h.dO.rs.blocks fun b hb _ _ => setCell_far _ (h.gR b hb) _ _
 refine ⟨h.tp.set (Nat.le_of_lt h.hg) _, h.res.far (Nat.ne_of_lt h.hg) _, ?_, ?_, h.hg, ?_, h.gR⟩
 ·have := h.bl.set i u
  rw [← hc] at this; exact this
 ·rcases ea with ⟨rfl, rfl, rfl, e⟩ | ⟨rfl, rfl, rfl, e⟩
  ·exact ⟨h1, h2, h3, by rw [e]; exact h.dO.aw.blocks fun b hb _ _ => setCell_far _ (h.gA b hb) _ _, hR, h.dO.ap⟩
  ·exact ⟨h1, h2, h3, by rw [e]; exact OwnR.nil _ _ _, hR, fun g hg => by cases hg⟩
 ·rcases ea with ⟨rfl, rfl, rfl, e⟩ | ⟨rfl, rfl, rfl, e⟩
  ·exact h.gA
  ·exact fun i hi => by cases hi
theorem SpS.below {w W W' : World} {t q g : Nat} {l : List Int} {r : RD} {D : Dec} (h : SpS w W t l q g r D) (hb : Below W.heap.size W W') : SpS w W' t l q g r D :=
 ⟨h.tp.below hb, h.res.below hb, h.bl.below hb, h.dO.below hb, h.hg, h.gA, h.gR⟩
theorem SpS.putA {w W : World} {t q g : Nat} {l : List Int} {r : RD} {D : Dec} (h : SpS w W t l q g r D) {k : Nat} (hk : k < D.aw.length) (i : Nat) (hi : i < 9) (u : Value) (a' : Awd) (hc : SA.cells a' = (SA.cells D.aw[k]).set i u) :
  ∃ gb, r.ap = some ⟨gb, 0, none⟩ ∧ gb ≠ g ∧ gb < W.heap.size ∧ (∃ v0, W.cell? ⟨gb, k * 9 + i, none⟩ = some v0) ∧ W.frozen? ⟨gb, k * 9 + i, none⟩ = false ∧ SpS w (W.setCell ⟨gb, k * 9 + i, none⟩ u) t l q g r { D with aw := D.aw.set k a' } := by
 obtain ⟨gb, hp, hn, hB, hl, hcell, hf, hset⟩ := h.dO.aw.at hk; have hne : gb ≠ g := h.gA gb (by rw [hp]; rfl); refine ⟨gb, hp, hne, hl, ⟨_, hcell i _ (List.getElem?_eq_getElem (by rw [SA.len]; exact hi))⟩, hf _, ⟨h.tp.set (Nat.le_of_lt hB) _, h.res.far (Nat.ne_of_lt hB) _, h.bl.far (Ne.symm hne) _, ⟨h.dO.year, h.dO.farm, h.dO.ver, hset i u a' hi hc, h.dO.rs.blocks fun b hb _ _ => setCell_far _ (fun e => h.dO.ap gb (by rw [hp]; rfl) (by rw [← e]; exact hb)) _ _, h.dO.ap⟩, h.hg, h.gA, h.gR⟩⟩
theorem SpS.putR {w W : World} {t q g : Nat} {l : List Int} {r : RD} {D : Dec} (h : SpS w W t l q g r D) {k : Nat} (hk : k < D.rs.length) (i : Nat) (hi : i < 3) (u : Value) (a' : Rsn) (hc : SRn.cells a' = (SRn.cells D.rs[k]).set i u) :
  ∃ gb, r.rp = some ⟨gb, 0, none⟩ ∧ gb ≠ g ∧ gb < W.heap.size ∧ (∃ v0, W.cell? ⟨gb, k * 3 + i, none⟩ = some v0) ∧ W.frozen? ⟨gb, k * 3 + i, none⟩ = false ∧ SpS w (W.setCell ⟨gb, k * 3 + i, none⟩ u) t l q g r { D with rs := D.rs.set k a' } := by
 obtain ⟨gb, hp, hn, hB, hl, hcell, hf, hset⟩ := h.dO.rs.at hk; have hne : gb ≠ g := h.gR gb (by rw [hp]; rfl); refine ⟨gb, hp, hne, hl, ⟨_, hcell i _ (List.getElem?_eq_getElem (by rw [SRn.len]; exact hi))⟩, hf _, ⟨h.tp.set (Nat.le_of_lt hB) _, h.res.far (Nat.ne_of_lt hB) _, h.bl.far (Ne.symm hne) _, ⟨h.dO.year, h.dO.farm, h.dO.ver, h.dO.aw.blocks fun b hb _ _ => setCell_far _ (fun e => h.dO.ap b hb (by rw [hp, e]; rfl)) _ _, hset i u a' hi hc, h.dO.ap⟩, h.hg, h.gA, h.gR⟩⟩
theorem OwnR.made00 {α : Type} {S : Shape α} (w : World) (T : TypeId) : OwnR S (w.alloc (.cells #[] T)) T w.heap.size (.slice (some ⟨w.heap.size, 0, none⟩) 0 0) [] :=
 World.ownsRow_made w #[] 0 mle (by unfold maxLen; omega) (by simp)
theorem SpS.newR {w W W' : World} {t q g : Nat} {l : List Int} {r : RD} {D : Dec} (h : SpS w W t l q g r D) (hb : Below W.heap.size W W') {p : Option Addr} {n c : Nat} {L : List Rsn} (hO : OwnR SRn W' 76 W.heap.size (.slice p n c) L) :
  SpS w (W'.setCell ⟨g, 4, none⟩ (.slice p n c)) t l q g { r with rp := p, rn := n, rc := c } { D with rs := L } := by
 have h2 := h.below hb; have hgl := h.bl.lt; have hg := h.hg; refine ⟨h2.tp.set (Nat.le_of_lt h.hg) _, h2.res.far (Nat.ne_of_lt h.hg) _, h2.bl.set 4 _, ⟨h.dO.year, h.dO.farm, h.dO.ver, h2.dO.aw.blocks fun b hb2 _ _ => setCell_far _ (h.gA b hb2) _ _, (hO.mono (by omega)).blocks fun b hb2 _ _ => setCell_far _ (by have := (hO.lt hb2).1; omega) _ _, fun i hi e => ?_⟩, h.hg, h.gA, fun i hi => by have := (hO.lt hi).1; omega⟩; have h3 := own_lt h.dO.aw hi; have h4 := (hO.lt e).1; omega
theorem SpS.newA {w W W' : World} {t q g : Nat} {l : List Int} {r : RD} {D : Dec} (h : SpS w W t l q g r D) (hb : Below W.heap.size W W') {p : Option Addr} {n c : Nat} {L : List Awd} (hO : OwnR SA W' 78 W.heap.size (.slice p n c) L) :
  SpS w (W'.setCell ⟨g, 3, none⟩ (.slice p n c)) t l q g { r with ap := p, an := n, ac := c } { D with aw := L } := by
 have h2 := h.below hb; have hgl := h.bl.lt; have hg := h.hg; refine ⟨h2.tp.set (Nat.le_of_lt h.hg) _, h2.res.far (Nat.ne_of_lt h.hg) _, h2.bl.set 3 _, ⟨h.dO.year, h.dO.farm, h.dO.ver, (hO.mono (by omega)).blocks fun b hb2 _ _ => setCell_far _ (by have := (hO.lt hb2).1; omega) _ _, h2.dO.rs.blocks fun b hb2 _ _ => setCell_far _ (h.gR b hb2) _ _, fun i hi e => ?_⟩, h.hg, fun i hi => by have := (hO.lt hi).1; omega, h.gR⟩; have h3 := own_lt h.dO.rs e; have h4 := (hO.lt hi).1; omega
theorem spoilt35_any (t : Nat) (l : List Int) (a : Nat) (x : Int) (w : World) (h : TapeAt w t l a) : Calls Tryz.prog 9 #[.pointer (some ⟨t, 0, none⟩), I O x] w (SpG t l w) := by
 have htl := h.lt; have T1 := mh ((TpB.init h).alloc (.cells #[I O 0, I O 0, I O 0, .slice none 0 0, .slice none 0 0] 26)); have R0 := mh (Blk.new w #[I O 0, I O 0, I O 0, .slice none 0 0, .slice none 0 0] 26); have SZ0 := mh (show (w.alloc (.cells #[I O 0, I O 0, I O 0, .slice none 0 0, .slice none 0 0] 26)).heap.size = w.heap.size + 1 from by simp); have DC := mh (decision2_any t l a (w.alloc (.cells #[I O 0, I O 0, I O 0, .slice none 0 0, .slice none 0 0] 26)) T1.out.tape); have TN := mh (fun (W : World) (q : Nat) (n : Int) (h : TapeAt W t l q) (hn : n ≤ 9223372036854775807) => next_any t l q n W h hn); unfold DecG at DC; clear h
 go_enter Tryz.func9, Tryz.ntmps9
 go_upto_region 2 with (first | (go_at_call 8; (with_reducible refine cmo DC.out ?_); rintro e w1 ⟨r, D, q, rfl, hdo, hck, htp⟩; have HCK := mh hck; clear hck; simp only [dCells]; have S1 := mh (show SpS w (w1.alloc (.cells #[I O r.year, I O r.farm, I O r.ver, .slice r.ap r.an r.ac, .slice r.rp r.rn r.rc] 26)) t l q w1.heap.size r D from ⟨(T1.out.trans htp).alloc _, ((R0.out.but htp.but (Nat.ne_of_gt htl))).below ((brf _ _).alloc mle _), Blk.new w1 #[I O r.year, I O r.farm, I O r.ver, .slice r.ap r.an r.ac, .slice r.rp r.rn r.rc] 26, (SZ0.out ▸ hdo).below ((brf _ _).alloc mle _), (by have h1 := htp.but.size; have h2 := SZ0.out; omega), (fun i hi => Nat.ne_of_lt (own_lt hdo.aw hi)), (fun i hi => Nat.ne_of_lt (own_lt hdo.rs hi))⟩); clear hdo htp) | fail)
 generalize w1.alloc (.cells #[I O r.year, I O r.farm, I O r.ver, .slice r.ap r.an r.ac, .slice r.rp r.rn r.rc] 26) = w2 at *; obtain ⟨g, eg⟩ : ∃ g, w1.heap.size = g := ⟨_, rfl⟩; rw [eg] at S1 ⊢; clear eg; have NX := mh (TN.out w2 q 12 S1.out.tp.tape (by omega)); have GB := gives_bd l q (n := 12) (by omega); obtain ⟨n, en⟩ : ∃ n, gives l q 12 = n := ⟨_, rfl⟩; rw [en] at NX GB; obtain ⟨n0, n1⟩ := GB; clear en
 by_cases h1 : n = 1
 ·subst h1
  go_upto_region 24 with (first | (go_at_call 28; (with_reducible refine cmo NX.out ?_); rintro e w3 ⟨rfl, ht3, hb3⟩; have S3 := mh (S1.out.next ht3 hb3); clear ht3 hb3; obtain ⟨b0, bf0, b1, bf1, b2, bf2, b3, bf3, b4, bf4⟩ := Blk.f5 S3.out.bl; have bl0 := S3.out.bl.lt) | fail)
  have S4 := mh (show SpS w (w3.setCell ⟨g, 0, none⟩ (I O x)) t l _ g { r with year := x } { D with year := x } from S3.out.row 0 (I O x) rfl rfl S3.out.dO.farm S3.out.dO.ver (.inl ⟨rfl, rfl, rfl, rfl⟩) ⟨rfl, rfl, rfl, rfl⟩); generalize w3.setCell ⟨g, 0, none⟩ (I O x) = w4 at *; clear b0 b1 b2 b3 b4 bf0 bf1 bf2 bf3 bf4 bl0; obtain ⟨t0, t0f, t1, t1f, t2, t2f, t3, t3f, t4, t4f⟩ := S4.out.res.f5; obtain ⟨d0, d1, d2, d3, d4⟩ := Blk.c5 S4.out.bl; have dl := S4.out.bl.lt
  go_wp2_with fail
  exact post5 S4.out.res rfl fun wf PB PK => ⟨by obtain ⟨c0, c1, c2, c3, c4⟩ := PB.c5; simp [results, dCells, Tryz.results9, go_sem, c0, c1, c2, c3, c4], ⟨{ r with year := x }, _, _, rfl, (S4.out.dO.but PK (Nat.lt_succ_self _)).mono (Nat.le_succ _), S4.out.tp.belowB (PK.below mle S4.out.tp.but.size)⟩⟩
 by_cases h2 : n = 2
 ·subst h2
  go_upto_region 24 with (first | (go_at_call 28; (with_reducible refine cmo NX.out ?_); rintro e w3 ⟨rfl, ht3, hb3⟩; have S3 := mh (S1.out.next ht3 hb3); clear ht3 hb3; obtain ⟨b0, bf0, b1, bf1, b2, bf2, b3, bf3, b4, bf4⟩ := Blk.f5 S3.out.bl; have bl0 := S3.out.bl.lt) | fail)
  have S4 := mh (show SpS w (w3.setCell ⟨g, 1, none⟩ (I O x)) t l _ g { r with farm := x } { D with farm := x } from S3.out.row 1 (I O x) rfl S3.out.dO.year rfl S3.out.dO.ver (.inl ⟨rfl, rfl, rfl, rfl⟩) ⟨rfl, rfl, rfl, rfl⟩); generalize w3.setCell ⟨g, 1, none⟩ (I O x) = w4 at *; clear b0 b1 b2 b3 b4 bf0 bf1 bf2 bf3 bf4 bl0; obtain ⟨t0, t0f, t1, t1f, t2, t2f, t3, t3f, t4, t4f⟩ := S4.out.res.f5; obtain ⟨d0, d1, d2, d3, d4⟩ := Blk.c5 S4.out.bl; have dl := S4.out.bl.lt
  go_wp2_with fail
  exact post5 S4.out.res rfl fun wf PB PK => ⟨by obtain ⟨c0, c1, c2, c3, c4⟩ := PB.c5; simp [results, dCells, Tryz.results9, go_sem, c0, c1, c2, c3, c4], ⟨{ r with farm := x }, _, _, rfl, (S4.out.dO.but PK (Nat.lt_succ_self _)).mono (Nat.le_succ _), S4.out.tp.belowB (PK.below mle S4.out.tp.but.size)⟩⟩
 by_cases h3 : n = 3
 ·subst h3
  go_upto_region 24 with (first | (go_at_call 28; (with_reducible refine cmo NX.out ?_); rintro e w3 ⟨rfl, ht3, hb3⟩; have S3 := mh (S1.out.next ht3 hb3); clear ht3 hb3; obtain ⟨b0, bf0, b1, bf1, b2, bf2, b3, bf3, b4, bf4⟩ := Blk.f5 S3.out.bl; have bl0 := S3.out.bl.lt) | fail)
  have S4 := mh (show SpS w (w3.setCell ⟨g, 2, none⟩ (I O x)) t l _ g { r with ver := x } { D with ver := x } from S3.out.row 2 (I O x) rfl S3.out.dO.year S3.out.dO.farm rfl (.inl ⟨rfl, rfl, rfl, rfl⟩) ⟨rfl, rfl, rfl, rfl⟩); generalize w3.setCell ⟨g, 2, none⟩ (I O x) = w4 at *; clear b0 b1 b2 b3 b4 bf0 bf1 bf2 bf3 bf4 bl0; obtain ⟨t0, t0f, t1, t1f, t2, t2f, t3, t3f, t4, t4f⟩ := S4.out.res.f5; obtain ⟨d0, d1, d2, d3, d4⟩ := Blk.c5 S4.out.bl; have dl := S4.out.bl.lt
  go_wp2_with fail
  exact post5 S4.out.res rfl fun wf PB PK => ⟨by obtain ⟨c0, c1, c2, c3, c4⟩ := PB.c5; simp [results, dCells, Tryz.results9, go_sem, c0, c1, c2, c3, c4], ⟨{ r with ver := x }, _, _, rfl, (S4.out.dO.but PK (Nat.lt_succ_self _)).mono (Nat.le_succ _), S4.out.tp.belowB (PK.below mle S4.out.tp.but.size)⟩⟩
 by_cases h9 : n = 9
 ·subst h9
  go_upto_region 24 with (first | (go_at_call 28; (with_reducible refine cmo NX.out ?_); rintro e w3 ⟨rfl, ht3, hb3⟩; have S3 := mh (S1.out.next ht3 hb3); clear ht3 hb3; obtain ⟨b0, bf0, b1, bf1, b2, bf2, b3, bf3, b4, bf4⟩ := Blk.f5 S3.out.bl; have bl0 := S3.out.bl.lt) | fail)
  have S4 := mh (show SpS w (w3.setCell ⟨g, 3, none⟩ (.slice none 0 0)) t l _ g { r with ap := none, an := 0, ac := 0 } { D with aw := [] } from S3.out.row 3 (.slice none 0 0) rfl S3.out.dO.year S3.out.dO.farm S3.out.dO.ver (.inr ⟨rfl, rfl, rfl, rfl⟩) ⟨rfl, rfl, rfl, rfl⟩); generalize w3.setCell ⟨g, 3, none⟩ (.slice none 0 0) = w4 at *; clear b0 b1 b2 b3 b4 bf0 bf1 bf2 bf3 bf4 bl0; obtain ⟨t0, t0f, t1, t1f, t2, t2f, t3, t3f, t4, t4f⟩ := S4.out.res.f5; obtain ⟨d0, d1, d2, d3, d4⟩ := Blk.c5 S4.out.bl; have dl := S4.out.bl.lt
  go_wp2_with fail
  exact post5 S4.out.res rfl fun wf PB PK => ⟨by obtain ⟨c0, c1, c2, c3, c4⟩ := PB.c5; simp [results, dCells, Tryz.results9, go_sem, c0, c1, c2, c3, c4], ⟨{ r with ap := none, an := 0, ac := 0 }, _, _, rfl, (S4.out.dO.but PK (Nat.lt_succ_self _)).mono (Nat.le_succ _), S4.out.tp.belowB (PK.below mle S4.out.tp.but.size)⟩⟩
 by_cases h6 : n = 6
 ·subst h6
  have LEN := mh S1.out.dO.aw.slc5.1; have hnn : 0 ≤ (r.an : Int) := inn _
  by_cases hz : r.an = 0
  ·have hzc : ¬ (0 : Int) < (r.an : Int) := by omega
   clear hz hnn
   go_upto_region 24 with (first | (go_at_call 28; (with_reducible refine cmo NX.out ?_); rintro e w3 ⟨rfl, ht3, hb3⟩; have S3 := mh (S1.out.next ht3 hb3); clear ht3 hb3; obtain ⟨b0, bf0, b1, bf1, b2, bf2, b3, bf3, b4, bf4⟩ := Blk.f5 S3.out.bl; have bl0 := S3.out.bl.lt) | fail)
   clear hzc; clear b0 b1 b2 b3 b4 bf0 bf1 bf2 bf3 bf4 bl0; obtain ⟨t0, t0f, t1, t1f, t2, t2f, t3, t3f, t4, t4f⟩ := S3.out.res.f5; obtain ⟨d0, d1, d2, d3, d4⟩ := Blk.c5 S3.out.bl; have dl := S3.out.bl.lt
   go_wp2_with fail
   exact post5 S3.out.res rfl fun wf PB PK => ⟨by obtain ⟨c0, c1, c2, c3, c4⟩ := PB.c5; simp [results, dCells, Tryz.results9, go_sem, c0, c1, c2, c3, c4], ⟨r, _, _, rfl, (S3.out.dO.but PK (Nat.lt_succ_self _)).mono (Nat.le_succ _), S3.out.tp.belowB (PK.below mle S3.out.tp.but.size)⟩⟩
  have hpos : (0 : Int) < (r.an : Int) := by omega
  go_upto_region 15 with (first | (go_at_call 28; (with_reducible refine cmo NX.out ?_); rintro e w3 ⟨rfl, ht3, hb3⟩; have S3 := mh (S1.out.next ht3 hb3); clear ht3 hb3; obtain ⟨b0, bf0, b1, bf1, b2, bf2, b3, bf3, b4, bf4⟩ := Blk.f5 S3.out.bl; have bl0 := S3.out.bl.lt) | fail)
  have HM : (r.an : Int) ≤ 9223372036854775807 := by have h1 := S3.out.dO.aw.slc5.2.2.1.len; unfold maxLen at h1; have h2 := LEN.out; omega
  have NX2 := mh (TN.out w3.drew _ (r.an : Int) S3.out.tp.drew.tape HM); have GB2 := gives_bd l (taken l q) (n := (r.an : Int)) (by omega); obtain ⟨k2, ek2⟩ : ∃ z, gives l (taken l q) (r.an : Int) = z := ⟨_, rfl⟩; rw [ek2] at NX2 GB2; obtain ⟨k, rfl⟩ : ∃ k : Nat, k2 = (k : Int) := ⟨k2.toNat, by omega⟩; have hk0 : (0 : Int) ≤ (k : Int) := inn _; have hk1 : (k : Int) < (r.an : Int) := GB2.2; have hkl : k < D.aw.length := by have := LEN.out; omega
  clear ek2 GB2; refine wp_region_held_drew (S := fun w' => w'.cell? ⟨g, 3, none⟩ = some (.slice r.ap r.an r.ac)) (by kernel_rfl) (show w3.drew.cell? ⟨g, 3, none⟩ = some (.slice r.ap r.an r.ac) from b3) (fun hHeld => ?_); refine tkH 0 49 hHeld ?_; refine tkH 1 50 hHeld ?_; refine tkH 2 51 hHeld ?_; refine tkH 3 52 hHeld ?_; refine tkH 4 53 hHeld ?_; refine tkH 5 54 hHeld ?_; refine tkH 7 56 hHeld ?_; refine rdA 6 55 (fun K hK => ?_); go_simp; (with_reducible refine cmo NX2.out ?_); rintro e w5 ⟨rfl, ht5, hb5⟩; have S5 := mh ((S3.out.below (brf _ _).drew).next ht5 hb5); clear ht5 hb5; have hHeld2 : w5.cell? ⟨g, 3, none⟩ = some (.slice r.ap r.an r.ac) := S5.out.bl.cell 3; obtain ⟨gb, hp, hgb, hgl, ⟨v0, hv0⟩, hfz, hput⟩ := S5.out.putA hkl 4 (by omega) (I O x) ⟨D.aw[k].farm, D.aw[k].scheme, D.aw[k].decl, D.aw[k].det, x, D.aw[k].rated, D.aw[k].timely, D.aw[k].capped, D.aw[k].due⟩ rfl; have S6 := mh hput
  go_wp2_with fail
  refine hK.out _ _ hHeld2 (fun _ => ?_)
  clear hK K hput
  (try dsimp only [Act.put])
  try simp only [mnA, mnB, mnC]
  refine tkH 8 57 hHeld2 ?_
  refine tkH 9 58 hHeld2 ?_
  clear hp; refine wpAnyH_ready (rs := [10]) (by kernel_rfl) (by simp) ?_; refine AllReadyH.cons (o := ⟨none, _, _, _, _, _⟩) rfl (fun K hK => ?_) AllReadyH.nil; go_simp; have hHeld6 : (w5.setCell ⟨gb, k * 9 + 4, none⟩ (I O x)).cell? ⟨g, 3, none⟩ = some (.slice r.ap r.an r.ac) := S6.out.bl.cell 3; refine hK.out _ _ hHeld6 (fun _ => ?_); clear hK K hHeld hHeld2 hHeld6
  (try dsimp only [Act.put])
  try simp only [mnA, mnB, mnC]
  refine wpAnyH_done (by kernel_rfl) ?_ _
  generalize w5.setCell ⟨gb, k * 9 + 4, none⟩ (I O x) = w6 at *; clear b0 b1 b2 b3 b4 bf0 bf1 bf2 bf3 bf4 bl0 hv0 hfz hgl
  go_upto_region 24 with fail
  obtain ⟨t0, t0f, t1, t1f, t2, t2f, t3, t3f, t4, t4f⟩ := S6.out.res.f5; obtain ⟨d0, d1, d2, d3, d4⟩ := Blk.c5 S6.out.bl; have dl := S6.out.bl.lt
  go_wp2_with fail
  exact post5 S6.out.res rfl fun wf PB PK => ⟨by obtain ⟨c0, c1, c2, c3, c4⟩ := PB.c5; simp [results, dCells, Tryz.results9, go_sem, c0, c1, c2, c3, c4], ⟨r, _, _, rfl, (S6.out.dO.but PK (Nat.lt_succ_self _)).mono (Nat.le_succ _), S6.out.tp.belowB (PK.below mle S6.out.tp.but.size)⟩⟩
 by_cases h7 : n = 7
 ·subst h7
  have LEN := mh S1.out.dO.aw.slc5.1; have hnn : 0 ≤ (r.an : Int) := inn _
  by_cases hz : r.an = 0
  ·have hzc : ¬ (0 : Int) < (r.an : Int) := by omega
   clear hz hnn
   go_upto_region 24 with (first | (go_at_call 28; (with_reducible refine cmo NX.out ?_); rintro e w3 ⟨rfl, ht3, hb3⟩; have S3 := mh (S1.out.next ht3 hb3); clear ht3 hb3; obtain ⟨b0, bf0, b1, bf1, b2, bf2, b3, bf3, b4, bf4⟩ := Blk.f5 S3.out.bl; have bl0 := S3.out.bl.lt) | fail)
   clear hzc; clear b0 b1 b2 b3 b4 bf0 bf1 bf2 bf3 bf4 bl0; obtain ⟨t0, t0f, t1, t1f, t2, t2f, t3, t3f, t4, t4f⟩ := S3.out.res.f5; obtain ⟨d0, d1, d2, d3, d4⟩ := Blk.c5 S3.out.bl; have dl := S3.out.bl.lt
   go_wp2_with fail
   exact post5 S3.out.res rfl fun wf PB PK => ⟨by obtain ⟨c0, c1, c2, c3, c4⟩ := PB.c5; simp [results, dCells, Tryz.results9, go_sem, c0, c1, c2, c3, c4], ⟨r, _, _, rfl, (S3.out.dO.but PK (Nat.lt_succ_self _)).mono (Nat.le_succ _), S3.out.tp.belowB (PK.below mle S3.out.tp.but.size)⟩⟩
  have hpos : (0 : Int) < (r.an : Int) := by omega
  go_upto_region 18 with (first | (go_at_call 28; (with_reducible refine cmo NX.out ?_); rintro e w3 ⟨rfl, ht3, hb3⟩; have S3 := mh (S1.out.next ht3 hb3); clear ht3 hb3; obtain ⟨b0, bf0, b1, bf1, b2, bf2, b3, bf3, b4, bf4⟩ := Blk.f5 S3.out.bl; have bl0 := S3.out.bl.lt) | fail)
  have HM : (r.an : Int) ≤ 9223372036854775807 := by have h1 := S3.out.dO.aw.slc5.2.2.1.len; unfold maxLen at h1; have h2 := LEN.out; omega
  have NX2 := mh (TN.out w3.drew _ (r.an : Int) S3.out.tp.drew.tape HM); have GB2 := gives_bd l (taken l q) (n := (r.an : Int)) (by omega); obtain ⟨k2, ek2⟩ : ∃ z, gives l (taken l q) (r.an : Int) = z := ⟨_, rfl⟩; rw [ek2] at NX2 GB2; obtain ⟨k, rfl⟩ : ∃ k : Nat, k2 = (k : Int) := ⟨k2.toNat, by omega⟩; have hk0 : (0 : Int) ≤ (k : Int) := inn _; have hk1 : (k : Int) < (r.an : Int) := GB2.2; have hkl : k < D.aw.length := by have := LEN.out; omega
  clear ek2 GB2; refine wp_region_held_drew (S := fun w' => w'.cell? ⟨g, 3, none⟩ = some (.slice r.ap r.an r.ac)) (by kernel_rfl) (show w3.drew.cell? ⟨g, 3, none⟩ = some (.slice r.ap r.an r.ac) from b3) (fun hHeld => ?_); refine tkH 0 65 hHeld ?_; refine tkH 1 66 hHeld ?_; refine tkH 2 67 hHeld ?_; refine tkH 3 68 hHeld ?_; refine tkH 4 69 hHeld ?_; refine tkH 5 70 hHeld ?_; refine tkH 7 72 hHeld ?_; refine rdA 6 71 (fun K hK => ?_); go_simp; (with_reducible refine cmo NX2.out ?_); rintro e w5 ⟨rfl, ht5, hb5⟩; have S5 := mh ((S3.out.below (brf _ _).drew).next ht5 hb5); clear ht5 hb5; have hHeld2 : w5.cell? ⟨g, 3, none⟩ = some (.slice r.ap r.an r.ac) := S5.out.bl.cell 3; obtain ⟨gb, hp, hgb, hgl, ⟨v0, hv0⟩, hfz, hput⟩ := S5.out.putA hkl 8 (by omega) (I O x) ⟨D.aw[k].farm, D.aw[k].scheme, D.aw[k].decl, D.aw[k].det, D.aw[k].paid, D.aw[k].rated, D.aw[k].timely, D.aw[k].capped, x⟩ rfl; have S6 := mh hput
  go_wp2_with fail
  refine hK.out _ _ hHeld2 (fun _ => ?_)
  clear hK K hput
  (try dsimp only [Act.put])
  try simp only [mnA, mnB, mnC]
  refine tkH 8 73 hHeld2 ?_
  refine tkH 9 74 hHeld2 ?_
  clear hp; refine wpAnyH_ready (rs := [10]) (by kernel_rfl) (by simp) ?_; refine AllReadyH.cons (o := ⟨none, _, _, _, _, _⟩) rfl (fun K hK => ?_) AllReadyH.nil; go_simp; have hHeld6 : (w5.setCell ⟨gb, k * 9 + 8, none⟩ (I O x)).cell? ⟨g, 3, none⟩ = some (.slice r.ap r.an r.ac) := S6.out.bl.cell 3; refine hK.out _ _ hHeld6 (fun _ => ?_); clear hK K hHeld hHeld2 hHeld6
  (try dsimp only [Act.put])
  try simp only [mnA, mnB, mnC]
  refine wpAnyH_done (by kernel_rfl) ?_ _
  generalize w5.setCell ⟨gb, k * 9 + 8, none⟩ (I O x) = w6 at *; clear b0 b1 b2 b3 b4 bf0 bf1 bf2 bf3 bf4 bl0 hv0 hfz hgl
  go_upto_region 24 with fail
  obtain ⟨t0, t0f, t1, t1f, t2, t2f, t3, t3f, t4, t4f⟩ := S6.out.res.f5; obtain ⟨d0, d1, d2, d3, d4⟩ := Blk.c5 S6.out.bl; have dl := S6.out.bl.lt
  go_wp2_with fail
  exact post5 S6.out.res rfl fun wf PB PK => ⟨by obtain ⟨c0, c1, c2, c3, c4⟩ := PB.c5; simp [results, dCells, Tryz.results9, go_sem, c0, c1, c2, c3, c4], ⟨r, _, _, rfl, (S6.out.dO.but PK (Nat.lt_succ_self _)).mono (Nat.le_succ _), S6.out.tp.belowB (PK.below mle S6.out.tp.but.size)⟩⟩
 by_cases h8 : n = 8
 ·subst h8
  have LEN := mh S1.out.dO.rs.slc5.1; have hnn : 0 ≤ (r.rn : Int) := inn _
  by_cases hz : r.rn = 0
  ·have hzc : ¬ (0 : Int) < (r.rn : Int) := by omega
   clear hz hnn
   go_upto_region 24 with (first | (go_at_call 28; (with_reducible refine cmo NX.out ?_); rintro e w3 ⟨rfl, ht3, hb3⟩; have S3 := mh (S1.out.next ht3 hb3); clear ht3 hb3; obtain ⟨b0, bf0, b1, bf1, b2, bf2, b3, bf3, b4, bf4⟩ := Blk.f5 S3.out.bl; have bl0 := S3.out.bl.lt) | fail)
   clear hzc; clear b0 b1 b2 b3 b4 bf0 bf1 bf2 bf3 bf4 bl0; obtain ⟨t0, t0f, t1, t1f, t2, t2f, t3, t3f, t4, t4f⟩ := S3.out.res.f5; obtain ⟨d0, d1, d2, d3, d4⟩ := Blk.c5 S3.out.bl; have dl := S3.out.bl.lt
   go_wp2_with fail
   exact post5 S3.out.res rfl fun wf PB PK => ⟨by obtain ⟨c0, c1, c2, c3, c4⟩ := PB.c5; simp [results, dCells, Tryz.results9, go_sem, c0, c1, c2, c3, c4], ⟨r, _, _, rfl, (S3.out.dO.but PK (Nat.lt_succ_self _)).mono (Nat.le_succ _), S3.out.tp.belowB (PK.below mle S3.out.tp.but.size)⟩⟩
  have hpos : (0 : Int) < (r.rn : Int) := by omega
  go_upto_region 21 with (first | (go_at_call 28; (with_reducible refine cmo NX.out ?_); rintro e w3 ⟨rfl, ht3, hb3⟩; have S3 := mh (S1.out.next ht3 hb3); clear ht3 hb3; obtain ⟨b0, bf0, b1, bf1, b2, bf2, b3, bf3, b4, bf4⟩ := Blk.f5 S3.out.bl; have bl0 := S3.out.bl.lt) | fail)
  have HM : (r.rn : Int) ≤ 9223372036854775807 := by have h1 := S3.out.dO.rs.slc5.2.2.1.len; unfold maxLen at h1; have h2 := LEN.out; omega
  have NX2 := mh (TN.out w3.drew _ (r.rn : Int) S3.out.tp.drew.tape HM); have GB2 := gives_bd l (taken l q) (n := (r.rn : Int)) (by omega); obtain ⟨k2, ek2⟩ : ∃ z, gives l (taken l q) (r.rn : Int) = z := ⟨_, rfl⟩; rw [ek2] at NX2 GB2; obtain ⟨k, rfl⟩ : ∃ k : Nat, k2 = (k : Int) := ⟨k2.toNat, by omega⟩; have hk0 : (0 : Int) ≤ (k : Int) := inn _; have hk1 : (k : Int) < (r.rn : Int) := GB2.2; have hkl : k < D.rs.length := by have := LEN.out; omega
  clear ek2 GB2; refine wp_region_held_drew (S := fun w' => w'.cell? ⟨g, 4, none⟩ = some (.slice r.rp r.rn r.rc)) (by kernel_rfl) (show w3.drew.cell? ⟨g, 4, none⟩ = some (.slice r.rp r.rn r.rc) from b4) (fun hHeld => ?_); refine tkH 0 81 hHeld ?_; refine tkH 1 82 hHeld ?_; refine tkH 2 83 hHeld ?_; refine tkH 3 84 hHeld ?_; refine tkH 4 85 hHeld ?_; refine tkH 5 86 hHeld ?_; refine tkH 7 88 hHeld ?_; refine rdA 6 87 (fun K hK => ?_); go_simp; (with_reducible refine cmo NX2.out ?_); rintro e w5 ⟨rfl, ht5, hb5⟩; have S5 := mh ((S3.out.below (brf _ _).drew).next ht5 hb5); clear ht5 hb5; have hHeld2 : w5.cell? ⟨g, 4, none⟩ = some (.slice r.rp r.rn r.rc) := S5.out.bl.cell 4; obtain ⟨gb, hp, hgb, hgl, ⟨v0, hv0⟩, hfz, hput⟩ := S5.out.putR hkl 2 (by omega) (I O x) ⟨D.rs[k].line, D.rs[k].scheme, x⟩ rfl; have S6 := mh hput
  go_wp2_with fail
  refine hK.out _ _ hHeld2 (fun _ => ?_)
  clear hK K hput
  (try dsimp only [Act.put])
  try simp only [mnA, mnB, mnC]
  refine tkH 8 89 hHeld2 ?_
  refine tkH 9 90 hHeld2 ?_
  clear hp; refine wpAnyH_ready (rs := [10]) (by kernel_rfl) (by simp) ?_; refine AllReadyH.cons (o := ⟨none, _, _, _, _, _⟩) rfl (fun K hK => ?_) AllReadyH.nil; go_simp; have hHeld6 : (w5.setCell ⟨gb, k * 3 + 2, none⟩ (I O x)).cell? ⟨g, 4, none⟩ = some (.slice r.rp r.rn r.rc) := S6.out.bl.cell 4; refine hK.out _ _ hHeld6 (fun _ => ?_); clear hK K hHeld hHeld2 hHeld6
  (try dsimp only [Act.put])
  try simp only [mnA, mnB, mnC]
  refine wpAnyH_done (by kernel_rfl) ?_ _
  generalize w5.setCell ⟨gb, k * 3 + 2, none⟩ (I O x) = w6 at *; clear b0 b1 b2 b3 b4 bf0 bf1 bf2 bf3 bf4 bl0 hv0 hfz hgl
  go_upto_region 24 with fail
  obtain ⟨t0, t0f, t1, t1f, t2, t2f, t3, t3f, t4, t4f⟩ := S6.out.res.f5; obtain ⟨d0, d1, d2, d3, d4⟩ := Blk.c5 S6.out.bl; have dl := S6.out.bl.lt
  go_wp2_with fail
  exact post5 S6.out.res rfl fun wf PB PK => ⟨by obtain ⟨c0, c1, c2, c3, c4⟩ := PB.c5; simp [results, dCells, Tryz.results9, go_sem, c0, c1, c2, c3, c4], ⟨r, _, _, rfl, (S6.out.dO.but PK (Nat.lt_succ_self _)).mono (Nat.le_succ _), S6.out.tp.belowB (PK.below mle S6.out.tp.but.size)⟩⟩
 by_cases h5 : n = 5
 ·subst h5
  have LEN := mh S1.out.dO.rs.slc5.1
  have LEN5 := mh (show D.rs.length ≤ 100000 from by
   rcases Nat.lt_or_ge 200 D.rs.length with h | h
   ·have h1 := HCK.out; rw [chk_200 (by omega)] at h1; omega
   ·omega)
  go_upto_region 12 with (first | (go_at_call 28; (with_reducible refine cmo NX.out ?_); rintro e w3 ⟨rfl, ht3, hb3⟩; have S3 := mh (S1.out.next ht3 hb3); clear ht3 hb3; obtain ⟨b0, bf0, b1, bf1, b2, bf2, b3, bf3, b4, bf4⟩ := Blk.f5 S3.out.bl; have bl0 := S3.out.bl.lt) | fail)
  have AZ := mh (show Below w3.heap.size w3 (w3.alloc (.cells #[] 76)) from (brf _ _).alloc mle _)
  go_upto_region 24 with (first
   | (at_builtin; (refine OwnR.appendAll el_rsn rfl (.tmp 34) (.tmp 36) rfl w3.heap.size (.slice (some ⟨w3.heap.size, 0, none⟩) 0 0) [] D.rs r.rp r.rc r.rn LEN.out.symm (OwnR.made00 w3 76) (S3.out.dO.rs.slc5.2.2.1.below AZ.out) S3.out.dO.rs.slc5.2.2.2 rfl rfl AZ.out.size (by have h1 := LEN.out; have h2 := LEN5.out; simp; omega) (by decide) ?_); intro v5 w5 hO5 hap5; rw [List.nil_append] at hO5; have HO5 := mh hO5; have HB5 := mh (AZ.out.trans hap5.below); clear hO5 hap5)
   | (at_builtin; (refine OwnR.append el_rsn rfl (.tmp 37) (.tmp 40) rfl w3.heap.size _ D.rs ⟨x, 0, 1⟩ #[I O x, I O 0, I O 1] rfl HO5.out rfl (by simp [Act.eval]) HB5.out.size (by have h2 := LEN5.out; omega) (by decide) ?_); intro v6 w6 hO6 hap6; have HB6 := mh (HB5.out.trans hap6.below); obtain ⟨p6, c6, rfl, -⟩ := hO6.cut rfl; obtain ⟨n6, en6⟩ : ∃ n6, (D.rs ++ [(⟨x, 0, 1⟩ : Rsn)]).length = n6 := ⟨_, rfl⟩; rw [en6] at hO6; have S4 := mh (S3.out.newR HB6.out hO6); rw [en6]; have k4 := (HB6.out.cell (p := ⟨g, 4, none⟩) bl0).trans b4; have k4f := (HB6.out.frozen (p := ⟨g, 4, none⟩) bl0).trans bf4; have kl := nll bl0 HB6.out.size; clear hO6 hap6)
   | fail)
  generalize w6.setCell ⟨g, 4, none⟩ (.slice p6 n6 c6) = w7 at *; clear b0 b1 b2 b3 b4 bf0 bf1 bf2 bf3 bf4 bl0 k4 k4f kl; obtain ⟨t0, t0f, t1, t1f, t2, t2f, t3, t3f, t4, t4f⟩ := S4.out.res.f5; obtain ⟨d0, d1, d2, d3, d4⟩ := Blk.c5 S4.out.bl; have dl := S4.out.bl.lt
  go_wp2_with fail
  exact post5 S4.out.res rfl fun wf PB PK => ⟨by obtain ⟨c0, c1, c2, c3, c4⟩ := PB.c5; simp [results, dCells, Tryz.results9, go_sem, c0, c1, c2, c3, c4], ⟨{ r with rp := p6, rn := n6, rc := c6 }, _, _, rfl, (S4.out.dO.but PK (Nat.lt_succ_self _)).mono (Nat.le_succ _), S4.out.tp.belowB (PK.below mle S4.out.tp.but.size)⟩⟩
 by_cases h4 : n = 4
 ·subst h4
  have LEN := mh S1.out.dO.aw.slc5.1
  have LEN5 := mh (show D.aw.length ≤ 1000 from by
   rcases Nat.lt_or_ge 16 D.aw.length with h | h
   ·have h1 := HCK.out; rw [chk_16 (by omega)] at h1; omega
   ·omega)
  go_upto_region 10 with (first | (go_at_call 28; (with_reducible refine cmo NX.out ?_); rintro e w3 ⟨rfl, ht3, hb3⟩; have S3 := mh (S1.out.next ht3 hb3); clear ht3 hb3; obtain ⟨b0, bf0, b1, bf1, b2, bf2, b3, bf3, b4, bf4⟩ := Blk.f5 S3.out.bl; have bl0 := S3.out.bl.lt) | fail)
  have AZ := mh (show Below w3.heap.size w3 (w3.drew.alloc (.cells #[] 78)) from (brf _ _).drew.alloc mle _); refine wp_region_K (fun w' => w'.cell? ⟨g, 3, none⟩ = some (.slice r.ap r.an r.ac)) 8 (by kernel_rfl) (show w3.drew.cell? ⟨g, 3, none⟩ = some (.slice r.ap r.an r.ac) from b3) (fun hHeld => ?_); refine tkK 1 25 hHeld ?_; refine tkK 2 26 hHeld ?_; refine tkK 4 28 hHeld ?_; refine tkK 5 29 hHeld ?_; refine wpAnyK_one (i := 0) (o := ⟨some 24, _, _, _, _, _⟩) (by kernel_rfl) (by kernel_rfl) rfl (fun K hK => ?_); go_simp; have hHeld2 := (AZ.out.cell (p := ⟨g, 3, none⟩) bl0).trans b3; refine hK.out _ _ hHeld2 ?_; clear hK K
  (try dsimp only [Act.put])
  try simp only [mnA, mnB, mnC]
  refine wpAnyK_one (i := 3) (o := ⟨some 27, _, _, _, _, _⟩) (by kernel_rfl) (by kernel_rfl) rfl (fun K hK => ?_)
  refine OwnR.stepAp el_awd (by rfl) (.tmp 24) (.tmp 26) (by rfl) w3.heap.size (.slice (some ⟨w3.heap.size, 0, none⟩) 0 0) [] D.aw r.ap r.ac r.an LEN.out.symm (OwnR.made00 w3.drew 78) (S3.out.dO.aw.slc5.2.2.1.below AZ.out) S3.out.dO.aw.slc5.2.2.2 (by rfl) (by rfl) AZ.out.size (by have h1 := LEN.out; have h2 := LEN5.out; simp; omega) (by decide) ?_
  intro v5 w5 hO5 hap5; rw [List.nil_append] at hO5; have HO5 := mh hO5; have HB5 := mh (AZ.out.trans hap5.below); have hHeld3 := (HB5.out.cell (p := ⟨g, 3, none⟩) bl0).trans b3; clear hO5 hap5; refine hK.out _ _ hHeld3 ?_; clear hK K
  (try dsimp only [Act.put])
  try simp only [mnA, mnB, mnC]
  refine wpAnyK_one (i := 6) (o := ⟨some 30, _, _, _, _, _⟩) (by kernel_rfl) (by kernel_rfl) rfl (fun K hK => ?_)
  refine OwnR.stepAp el_awd (by rfl) (.tmp 27) (.tmp 29) (by rfl) w3.heap.size v5 D.aw D.aw r.ap r.ac r.an LEN.out.symm HO5.out (S3.out.dO.aw.slc5.2.2.1.below HB5.out) S3.out.dO.aw.slc5.2.2.2 (by rfl) (by rfl) HB5.out.size (by have h1 := LEN.out; have h2 := LEN5.out; omega) (by decide) ?_
  intro v6 w6 hO6 hap6; have HB6 := mh (HB5.out.trans hap6.below); have hHeld4 := (HB6.out.cell (p := ⟨g, 3, none⟩) bl0).trans b3; have k3f := (HB6.out.frozen (p := ⟨g, 3, none⟩) bl0).trans bf3; have kl := nll bl0 HB6.out.size; obtain ⟨p6, c6, rfl, -⟩ := hO6.cut rfl; obtain ⟨n6, en6⟩ : ∃ n6, (D.aw ++ D.aw).length = n6 := ⟨_, rfl⟩; rw [en6] at hO6; have S4 := mh (S3.out.newA HB6.out hO6); rw [en6]; clear hO6 hap6 en6; refine hK.out _ _ hHeld4 ?_; clear hK K
  (try dsimp only [Act.put])
  try simp only [mnA, mnB, mnC]
  refine tkK 7 31 hHeld4 ?_
  refine wpAnyK_last (o := ⟨none, _, _, _, _, _⟩) (by kernel_rfl) rfl (fun K hK => ?_)
  go_simp
  refine hK.out _ _ ?_
  clear hK K
  (try dsimp only [Act.put])
  try simp only [mnA, mnB, mnC]
  refine wpAnyH_done (by kernel_rfl) ?_ _
  generalize w6.setCell ⟨g, 3, none⟩ (.slice p6 n6 c6) = w7 at *; clear b0 b1 b2 b3 b4 bf0 bf1 bf2 bf3 bf4 bl0 k3f kl hHeld hHeld2 hHeld3 hHeld4
  go_upto_region 24 with fail
  obtain ⟨t0, t0f, t1, t1f, t2, t2f, t3, t3f, t4, t4f⟩ := S4.out.res.f5; obtain ⟨d0, d1, d2, d3, d4⟩ := Blk.c5 S4.out.bl; have dl := S4.out.bl.lt
  go_wp2_with fail
  exact post5 S4.out.res rfl fun wf PB PK => ⟨by obtain ⟨c0, c1, c2, c3, c4⟩ := PB.c5; simp [results, dCells, Tryz.results9, go_sem, c0, c1, c2, c3, c4], ⟨{ r with ap := p6, an := n6, ac := c6 }, _, _, rfl, (S4.out.dO.but PK (Nat.lt_succ_self _)).mono (Nat.le_succ _), S4.out.tp.belowB (PK.below mle S4.out.tp.but.size)⟩⟩
 have hn : n = 0 ∨ n = 10 ∨ n = 11 := by omega
 clear h1 h2 h3 h9 h6 h7 h8 h5 h4 n0 n1
 rcases hn with rfl | rfl | rfl
 all_goals
  go_upto_region 24 with (first | (go_at_call 28; (with_reducible refine cmo NX.out ?_); rintro e w3 ⟨rfl, ht3, hb3⟩; have S3 := mh (S1.out.next ht3 hb3); clear ht3 hb3; obtain ⟨b0, bf0, b1, bf1, b2, bf2, b3, bf3, b4, bf4⟩ := Blk.f5 S3.out.bl; have bl0 := S3.out.bl.lt) | fail)
  clear b0 b1 b2 b3 b4 bf0 bf1 bf2 bf3 bf4 bl0; obtain ⟨t0, t0f, t1, t1f, t2, t2f, t3, t3f, t4, t4f⟩ := S3.out.res.f5; obtain ⟨d0, d1, d2, d3, d4⟩ := Blk.c5 S3.out.bl; have dl := S3.out.bl.lt
  go_wp2_with fail
  exact post5 S3.out.res rfl fun wf PB PK => ⟨by obtain ⟨c0, c1, c2, c3, c4⟩ := PB.c5; simp [results, dCells, Tryz.results9, go_sem, c0, c1, c2, c3, c4], ⟨r, _, _, rfl, (S3.out.dO.but PK (Nat.lt_succ_self _)).mono (Nat.le_succ _), S3.out.tp.belowB (PK.below mle S3.out.tp.but.size)⟩⟩
def SDc : Shape RD := ⟨5, dCells, fun _ => rfl, by decide, fun a u hu => by
 simp only [dCells, List.mem_cons, List.not_mem_nil, or_false] at hu
 rcases hu with rfl | rfl | rfl | rfl | rfl <;> rfl⟩
theorem SDc_at {w : World} {p : Option Addr} {L : List RD} (h : Recs SDc w p L) {k : Nat} (hk : k < L.length) :
  ∃ b off, p = some ⟨b, off, none⟩ ∧ b < w.heap.size ∧ w.cell? ⟨b, off + k * 5, none⟩ = some (I O L[k].year) ∧ w.cell? ⟨b, off + k * 5 + 1, none⟩ = some (I O L[k].farm) ∧ w.cell? ⟨b, off + k * 5 + 2, none⟩ = some (I O L[k].ver) ∧ w.cell? ⟨b, off + k * 5 + 3, none⟩ = some (.slice L[k].ap L[k].an L[k].ac) ∧ w.cell? ⟨b, off + k * 5 + 4, none⟩ = some (.slice L[k].rp L[k].rn L[k].rc) := by
 obtain ⟨b, off, e, hl, hc⟩ := h.at hk; exact ⟨b, off, e, hl, hc 0 _ rfl, hc 1 _ rfl, hc 2 _ rfl, hc 3 _ rfl, hc 4 _ rfl⟩
def DsV (w : World) (R : List RD) (Ds : List Dec) : Prop := R.length = Ds.length ∧ ∀ (k : Nat) (h1 : k < R.length) (h2 : k < Ds.length), DV w R[k] Ds[k]
theorem DsV.below {w w' : World} {R : List RD} {Ds : List Dec} (h : DsV w R Ds) (hb : Below w.heap.size w w') : DsV w' R Ds := ⟨h.1, fun k h1 h2 => (h.2 k h1 h2).below hb⟩
theorem DsV.four {w : World} {a b c d : RD} {A B C D : Dec} (h1 : DV w a A) (h2 : DV w b B) (h3 : DV w c C) (h4 : DV w d D) : DsV w [a, b, c, d] [A, B, C, D] :=
 ⟨rfl, fun k k1 k2 => by
  match k, k1 with
  | 0, _ => exact h1
  | 1, _ => exact h2
  | 2, _ => exact h3
  | 3, _ => exact h4⟩
end Go.Proofs.YtljibgchickcpaaGreatDoor
