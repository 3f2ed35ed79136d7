/- Joined texts, in this order: Ref23e. Each one's first remark says what it proves; no condition beyond those that its theorems name. -/
import Derived.Test.YtajfjgekcjkedaaJLawStallRestores14
section
/- Contracts of the document's stalls: Put. -/
namespace Go.Proofs.Ytajfjgekcjkedaa
open Go.RowKit
open Go.Lib (hid)
set_option linter.unusedVariables false

theorem ofX_len (G : List G3) (h : Int) : (ofX G h).length = (G.filter (fun g => g.1 == h)).length := by unfold ofX; rw [List.length_map]
theorem putE_none23 {X : StX} {h : Int} (t p : Int) (e : X.tills.lookup h = none) : putE X h t p = 14 := by unfold putE; rw [e]; rfl
theorem putE_t {X : StX} {h g t : Int} (p : Int) (e : X.tills.lookup h = some g) (ht : t < 1) : putE X h t p = 10 := by unfold putE; rw [e, if_pos (show (some g).isSome = true from rfl), if_pos ht]
theorem putE_p {X : StX} {h g t p : Int} (e : X.tills.lookup h = some g) (ht : ¬ t < 1) (hp : p < 1 ∨ 1099511627776 < p) : putE X h t p = 11 := by unfold putE; rw [e, if_pos (show (some g).isSome = true from rfl), if_neg ht, if_pos hp]
theorem putE_f {X : StX} {h g t p : Int} {q : G3} (e : X.tills.lookup h = some g) (ht : ¬ t < 1) (hp : ¬ (p < 1 ∨ 1099511627776 < p)) (hf : fdX X.goods t = some q) : putE X h t p = 13 := by unfold putE; rw [e, if_pos (show (some g).isSome = true from rfl), if_neg ht, if_neg hp, hf, if_pos (show (some q).isSome = true from rfl)]
theorem putE_16 {X : StX} {h g t p : Int} (e : X.tills.lookup h = some g) (ht : ¬ t < 1) (hp : ¬ (p < 1 ∨ 1099511627776 < p)) (hf : fdX X.goods t = none) (hl : 16 ≤ (ofX X.goods h).length) : putE X h t p = 12 := by unfold putE; rw [e, if_pos (show (some g).isSome = true from rfl), if_neg ht, if_neg hp, hf, if_neg (by simp), if_pos hl]
theorem putE_ok {X : StX} {h g t p : Int} (e : X.tills.lookup h = some g) (ht : ¬ t < 1) (hp : ¬ (p < 1 ∨ 1099511627776 < p)) (hf : fdX X.goods t = none) (hl : ¬ 16 ≤ (ofX X.goods h).length) : putE X h t p = 0 := by unfold putE; rw [e, if_pos (show (some g).isSome = true from rfl), if_neg ht, if_neg hp, hf, if_neg (by simp), if_neg hl]
theorem putX_not {X : StX} {h t p E : Int} (e : putE X h t p = E) (n : E ≠ 0) : putX X h t p = X := by unfold putX; rw [e, if_neg n]
theorem putX_ok {X : StX} {h t p : Int} (e : putE X h t p = 0) : putX X h t p = ⟨X.tills, insK kG X.goods (h, t, p)⟩ := by unfold putX; rw [if_pos e]
set_option maxRecDepth 100000 in
set_option maxHeartbeats 2000000 in
theorem ref23_Put {at_ ag : Option Addr} {ct cg : Nat} {X : StX} (w : World) (h : RefX w at_ ct ag cg X) (hlow : Low at_ ag w.heap.size) (hi : SortK kG X.goods) (hn : X.goods.length < 100000) (k t p : Int) :
    Calls Try.prog 18 #[.agg #[.slice at_ X.tills.length ct, .slice ag X.goods.length cg], .int .i64 k, .int .i64 t, .int .i64 p] w (R23Post w at_ ag (putX X k t p) (putE X k t p)) := by
  have H := hid h
  have HLOW := hid hlow
  have hlt_ := h.lt
  have hlg_ := h.lg
  clear h hlow
  cases hf : X.tills.lookup k with
  | none =>
    have hE := putE_none23 t p hf
    rw [putX_not hE (by omega), hE]
    have HF := hid hf
    clear hi hn hf hE
    go_enter Try.func18, Try.ntmps18
    go_upto_region 1 with fail
    generalize hw2 : World.alloc (World.alloc w _) _ = w2
    obtain ⟨bs, hbs⟩ : ∃ b, b = w.heap.size := ⟨_, rfl⟩
    obtain ⟨b4, hb4⟩ : ∃ b, b = w.heap.size + 1 := ⟨_, rfl⟩
    have hz1 : (World.alloc w (.cells #[.slice at_ X.tills.length ct, .slice ag X.goods.length cg] 46)).heap.size = w.heap.size + 1 := by simp
    try rw [hz1]
    try rw [← hb4]
    try rw [← hbs]
    have hb2 : Below w.heap.size w w2 := by rw [← hw2]; exact Below.next (Below.new _ _) (Below.new _ _)
    have HK : Hid (Blk w2 bs #[.slice at_ X.tills.length ct, .slice ag X.goods.length cg]) := hid (by rw [← hw2, hbs]; exact (Blk.new w _ _).below (Below.new _ _))
    have HK4 : Hid (Blk w2 b4 #[.slice none 0 0, .slice none 0 0]) := hid (by rw [← hw2, hb4, ← hz1]; exact Blk.new _ _ _)
    have H2 := hid (H.out.below hb2)
    have HB2 := hid hb2
    have HB4 : Hid (w.heap.size ≤ b4 ∧ b4 < w2.heap.size ∧ b4 ≠ bs) := hid (by have := HK4.out.lt; omega)
    clear hw2 hbs hb4 hz1 hb2
    have c0 : w2.cell? ⟨bs, 0, none⟩ = some (.slice at_ X.tills.length ct) := by rw [HK.out.cell]; rfl
    have c1 : w2.cell? ⟨bs, 1, none⟩ = some (.slice ag X.goods.length cg) := by rw [HK.out.cell]; rfl
    go_wp2_with fail
    refine (ref23_Has w2 H2.out k).mono ?_
    rintro e w3 ⟨r, rfl, hr, hb3⟩
    obtain rfl : r = -1 := by
      rcases hr with ⟨i, g, -, -, q⟩ | ⟨q, -⟩
      · rw [HF.out] at q; simp at q
      · exact q
    have HK3 := hid (HK.out.below hb3)
    have HK43 := hid (HK4.out.below hb3)
    have H3 := hid (H2.out.below hb3)
    have HB3 := hid (Below.next HB2.out hb3)
    have HBN : Hid (b4 < w3.heap.size) := hid HK43.out.lt
    clear hr hb3 c0 c1
    have c0 : w3.cell? ⟨bs, 0, none⟩ = some (.slice at_ X.tills.length ct) := by rw [HK3.out.cell]; rfl
    have c1 : w3.cell? ⟨bs, 1, none⟩ = some (.slice ag X.goods.length cg) := by rw [HK3.out.cell]; rfl
    have q0 : w3.cell? ⟨b4, 0, none⟩ = some (.slice none 0 0) := by rw [HK43.out.cell]; rfl
    have q1 : w3.cell? ⟨b4, 1, none⟩ = some (.slice none 0 0) := by rw [HK43.out.cell]; rfl
    have f0 : w3.frozen? ⟨b4, 0, none⟩ = false := HK43.out.unfrozen 0
    have f1 : w3.frozen? ⟨b4, 1, none⟩ = false := HK43.out.unfrozen 1
    go_wp2_with fail
    have HK5 : Hid (Blk ((w3.setCell ⟨b4, 0, none⟩ (.slice at_ X.tills.length ct)).setCell ⟨b4, 1, none⟩ (.slice ag X.goods.length cg)) b4 #[.slice at_ X.tills.length ct, .slice ag X.goods.length cg]) := hid (by simpa using (HK43.out.set 0 (.slice at_ X.tills.length ct)).set 1 (.slice ag X.goods.length cg))
    have HT5 := hid (((H3.out.t).set4 (b4 := b4) (i := 0) (u := .slice at_ X.tills.length ct) (fun k hk => by have := HLOW.out k (.inl hk); have := HB4.out.1; omega)).set4 (b4 := b4) (i := 1) (u := .slice ag X.goods.length cg) (fun k hk => by have := HLOW.out k (.inl hk); have := HB4.out.1; omega))
    have HG5 := hid (((H3.out.g).set4 (b4 := b4) (i := 0) (u := .slice at_ X.tills.length ct) (fun k hk => by have := HLOW.out k (.inr hk); have := HB4.out.1; omega)).set4 (b4 := b4) (i := 1) (u := .slice ag X.goods.length cg) (fun k hk => by have := HLOW.out k (.inr hk); have := HB4.out.1; omega))
    have HB5 : Hid (Below w.heap.size w ((w3.setCell ⟨b4, 0, none⟩ (.slice at_ X.tills.length ct)).setCell ⟨b4, 1, none⟩ (.slice ag X.goods.length cg))) := hid (by
      have hb := HB3.out
      have u := (Upd.setCell w3 b4 0 (.slice at_ X.tills.length ct)).trans (Upd.setCell _ b4 1 (.slice ag X.goods.length cg)) (fun _ _ q => q)
      exact hb.trans (u.below hb.size (fun j _ q => by have := HB4.out.1; omega)))
    have HSZ9 : Hid (w3.heap.size ≤ ((w3.setCell ⟨b4, 0, none⟩ (.slice at_ X.tills.length ct)).setCell ⟨b4, 1, none⟩ (.slice ag X.goods.length cg)).heap.size) := hid (by simp [World.setCell])
    generalize World.setCell (World.setCell w3 _ _) _ _ = w9 at HK5 HT5 HG5 HB5 HSZ9
    have k0 : w9.cell? ⟨b4, 0, none⟩ = some (.slice at_ X.tills.length ct) := by rw [HK5.out.cell]; rfl
    have k1 : w9.cell? ⟨b4, 1, none⟩ = some (.slice ag X.goods.length cg) := by rw [HK5.out.cell]; rfl
    clear q0 q1 f0 f1
    refine bodyPost_ret (res_cell_tmp rfl _ _ _ rfl (by go_simp; rfl)) rfl ?_
    exact ⟨_, _, _, _, rfl, ⟨HT5.out, HG5.out, H.out.lt, H.out.lg⟩, HB5.out, fun k hk => ⟨by have := HLOW.out k hk; have := HB5.out.size; omega, .inl hk⟩⟩
  | some g0 =>
    by_cases h1 : t < 1
    · skip
      have hE := putE_t p hf h1
      rw [putX_not hE (by omega), hE]
      have HF := hid hf
      clear hi hn hf hE
      go_enter Try.func18, Try.ntmps18
      go_upto_region 1 with fail
      generalize hw2 : World.alloc (World.alloc w _) _ = w2
      obtain ⟨bs, hbs⟩ : ∃ b, b = w.heap.size := ⟨_, rfl⟩
      obtain ⟨b4, hb4⟩ : ∃ b, b = w.heap.size + 1 := ⟨_, rfl⟩
      have hz1 : (World.alloc w (.cells #[.slice at_ X.tills.length ct, .slice ag X.goods.length cg] 46)).heap.size = w.heap.size + 1 := by simp
      try rw [hz1]
      try rw [← hb4]
      try rw [← hbs]
      have hb2 : Below w.heap.size w w2 := by rw [← hw2]; exact Below.next (Below.new _ _) (Below.new _ _)
      have HK : Hid (Blk w2 bs #[.slice at_ X.tills.length ct, .slice ag X.goods.length cg]) := hid (by rw [← hw2, hbs]; exact (Blk.new w _ _).below (Below.new _ _))
      have HK4 : Hid (Blk w2 b4 #[.slice none 0 0, .slice none 0 0]) := hid (by rw [← hw2, hb4, ← hz1]; exact Blk.new _ _ _)
      have H2 := hid (H.out.below hb2)
      have HB2 := hid hb2
      have HB4 : Hid (w.heap.size ≤ b4 ∧ b4 < w2.heap.size ∧ b4 ≠ bs) := hid (by have := HK4.out.lt; omega)
      clear hw2 hbs hb4 hz1 hb2
      have c0 : w2.cell? ⟨bs, 0, none⟩ = some (.slice at_ X.tills.length ct) := by rw [HK.out.cell]; rfl
      have c1 : w2.cell? ⟨bs, 1, none⟩ = some (.slice ag X.goods.length cg) := by rw [HK.out.cell]; rfl
      go_wp2_with fail
      refine (ref23_Has w2 H2.out k).mono ?_
      rintro e w3 ⟨r, rfl, hr, hb3⟩
      obtain ⟨i0, rfl⟩ : ∃ i0 : Nat, r = (i0 : Int) := by
        rcases hr with ⟨i, g, q1, -, -⟩ | ⟨-, q⟩
        · exact ⟨i, q1⟩
        · rw [HF.out] at q; simp at q
      have i00 : (0 : Int) ≤ (i0 : Int) := by omega
      have i01 : ¬ (i0 : Int) < 0 := by omega
      have HK3 := hid (HK.out.below hb3)
      have HK43 := hid (HK4.out.below hb3)
      have H3 := hid (H2.out.below hb3)
      have HB3 := hid (Below.next HB2.out hb3)
      have HBN : Hid (b4 < w3.heap.size) := hid HK43.out.lt
      clear hr hb3 c0 c1
      have c0 : w3.cell? ⟨bs, 0, none⟩ = some (.slice at_ X.tills.length ct) := by rw [HK3.out.cell]; rfl
      have c1 : w3.cell? ⟨bs, 1, none⟩ = some (.slice ag X.goods.length cg) := by rw [HK3.out.cell]; rfl
      have q0 : w3.cell? ⟨b4, 0, none⟩ = some (.slice none 0 0) := by rw [HK43.out.cell]; rfl
      have q1 : w3.cell? ⟨b4, 1, none⟩ = some (.slice none 0 0) := by rw [HK43.out.cell]; rfl
      have f0 : w3.frozen? ⟨b4, 0, none⟩ = false := HK43.out.unfrozen 0
      have f1 : w3.frozen? ⟨b4, 1, none⟩ = false := HK43.out.unfrozen 1
      go_wp2_with fail
      have HK5 : Hid (Blk ((w3.setCell ⟨b4, 0, none⟩ (.slice at_ X.tills.length ct)).setCell ⟨b4, 1, none⟩ (.slice ag X.goods.length cg)) b4 #[.slice at_ X.tills.length ct, .slice ag X.goods.length cg]) := hid (by simpa using (HK43.out.set 0 (.slice at_ X.tills.length ct)).set 1 (.slice ag X.goods.length cg))
      have HT5 := hid (((H3.out.t).set4 (b4 := b4) (i := 0) (u := .slice at_ X.tills.length ct) (fun k hk => by have := HLOW.out k (.inl hk); have := HB4.out.1; omega)).set4 (b4 := b4) (i := 1) (u := .slice ag X.goods.length cg) (fun k hk => by have := HLOW.out k (.inl hk); have := HB4.out.1; omega))
      have HG5 := hid (((H3.out.g).set4 (b4 := b4) (i := 0) (u := .slice at_ X.tills.length ct) (fun k hk => by have := HLOW.out k (.inr hk); have := HB4.out.1; omega)).set4 (b4 := b4) (i := 1) (u := .slice ag X.goods.length cg) (fun k hk => by have := HLOW.out k (.inr hk); have := HB4.out.1; omega))
      have HB5 : Hid (Below w.heap.size w ((w3.setCell ⟨b4, 0, none⟩ (.slice at_ X.tills.length ct)).setCell ⟨b4, 1, none⟩ (.slice ag X.goods.length cg))) := hid (by
        have hb := HB3.out
        have u := (Upd.setCell w3 b4 0 (.slice at_ X.tills.length ct)).trans (Upd.setCell _ b4 1 (.slice ag X.goods.length cg)) (fun _ _ q => q)
        exact hb.trans (u.below hb.size (fun j _ q => by have := HB4.out.1; omega)))
      have HSZ9 : Hid (w3.heap.size ≤ ((w3.setCell ⟨b4, 0, none⟩ (.slice at_ X.tills.length ct)).setCell ⟨b4, 1, none⟩ (.slice ag X.goods.length cg)).heap.size) := hid (by simp [World.setCell])
      generalize World.setCell (World.setCell w3 _ _) _ _ = w9 at HK5 HT5 HG5 HB5 HSZ9
      have k0 : w9.cell? ⟨b4, 0, none⟩ = some (.slice at_ X.tills.length ct) := by rw [HK5.out.cell]; rfl
      have k1 : w9.cell? ⟨b4, 1, none⟩ = some (.slice ag X.goods.length cg) := by rw [HK5.out.cell]; rfl
      clear q0 q1 f0 f1
      refine bodyPost_ret (res_cell_tmp rfl _ _ _ rfl (by go_simp; rfl)) rfl ?_
      exact ⟨_, _, _, _, rfl, ⟨HT5.out, HG5.out, H.out.lt, H.out.lg⟩, HB5.out, fun k hk => ⟨by have := HLOW.out k hk; have := HB5.out.size; omega, .inl hk⟩⟩
    by_cases h2 : p < 1
    · skip
      have hE := putE_p hf h1 (.inl h2)
      rw [putX_not hE (by omega), hE]
      have HF := hid hf
      clear hi hn hf hE
      go_enter Try.func18, Try.ntmps18
      go_upto_region 1 with fail
      generalize hw2 : World.alloc (World.alloc w _) _ = w2
      obtain ⟨bs, hbs⟩ : ∃ b, b = w.heap.size := ⟨_, rfl⟩
      obtain ⟨b4, hb4⟩ : ∃ b, b = w.heap.size + 1 := ⟨_, rfl⟩
      have hz1 : (World.alloc w (.cells #[.slice at_ X.tills.length ct, .slice ag X.goods.length cg] 46)).heap.size = w.heap.size + 1 := by simp
      try rw [hz1]
      try rw [← hb4]
      try rw [← hbs]
      have hb2 : Below w.heap.size w w2 := by rw [← hw2]; exact Below.next (Below.new _ _) (Below.new _ _)
      have HK : Hid (Blk w2 bs #[.slice at_ X.tills.length ct, .slice ag X.goods.length cg]) := hid (by rw [← hw2, hbs]; exact (Blk.new w _ _).below (Below.new _ _))
      have HK4 : Hid (Blk w2 b4 #[.slice none 0 0, .slice none 0 0]) := hid (by rw [← hw2, hb4, ← hz1]; exact Blk.new _ _ _)
      have H2 := hid (H.out.below hb2)
      have HB2 := hid hb2
      have HB4 : Hid (w.heap.size ≤ b4 ∧ b4 < w2.heap.size ∧ b4 ≠ bs) := hid (by have := HK4.out.lt; omega)
      clear hw2 hbs hb4 hz1 hb2
      have c0 : w2.cell? ⟨bs, 0, none⟩ = some (.slice at_ X.tills.length ct) := by rw [HK.out.cell]; rfl
      have c1 : w2.cell? ⟨bs, 1, none⟩ = some (.slice ag X.goods.length cg) := by rw [HK.out.cell]; rfl
      go_wp2_with fail
      refine (ref23_Has w2 H2.out k).mono ?_
      rintro e w3 ⟨r, rfl, hr, hb3⟩
      obtain ⟨i0, rfl⟩ : ∃ i0 : Nat, r = (i0 : Int) := by
        rcases hr with ⟨i, g, q1, -, -⟩ | ⟨-, q⟩
        · exact ⟨i, q1⟩
        · rw [HF.out] at q; simp at q
      have i00 : (0 : Int) ≤ (i0 : Int) := by omega
      have i01 : ¬ (i0 : Int) < 0 := by omega
      have HK3 := hid (HK.out.below hb3)
      have HK43 := hid (HK4.out.below hb3)
      have H3 := hid (H2.out.below hb3)
      have HB3 := hid (Below.next HB2.out hb3)
      have HBN : Hid (b4 < w3.heap.size) := hid HK43.out.lt
      clear hr hb3 c0 c1
      have c0 : w3.cell? ⟨bs, 0, none⟩ = some (.slice at_ X.tills.length ct) := by rw [HK3.out.cell]; rfl
      have c1 : w3.cell? ⟨bs, 1, none⟩ = some (.slice ag X.goods.length cg) := by rw [HK3.out.cell]; rfl
      have q0 : w3.cell? ⟨b4, 0, none⟩ = some (.slice none 0 0) := by rw [HK43.out.cell]; rfl
      have q1 : w3.cell? ⟨b4, 1, none⟩ = some (.slice none 0 0) := by rw [HK43.out.cell]; rfl
      have f0 : w3.frozen? ⟨b4, 0, none⟩ = false := HK43.out.unfrozen 0
      have f1 : w3.frozen? ⟨b4, 1, none⟩ = false := HK43.out.unfrozen 1
      go_wp2_with fail
      have HK5 : Hid (Blk ((w3.setCell ⟨b4, 0, none⟩ (.slice at_ X.tills.length ct)).setCell ⟨b4, 1, none⟩ (.slice ag X.goods.length cg)) b4 #[.slice at_ X.tills.length ct, .slice ag X.goods.length cg]) := hid (by simpa using (HK43.out.set 0 (.slice at_ X.tills.length ct)).set 1 (.slice ag X.goods.length cg))
      have HT5 := hid (((H3.out.t).set4 (b4 := b4) (i := 0) (u := .slice at_ X.tills.length ct) (fun k hk => by have := HLOW.out k (.inl hk); have := HB4.out.1; omega)).set4 (b4 := b4) (i := 1) (u := .slice ag X.goods.length cg) (fun k hk => by have := HLOW.out k (.inl hk); have := HB4.out.1; omega))
      have HG5 := hid (((H3.out.g).set4 (b4 := b4) (i := 0) (u := .slice at_ X.tills.length ct) (fun k hk => by have := HLOW.out k (.inr hk); have := HB4.out.1; omega)).set4 (b4 := b4) (i := 1) (u := .slice ag X.goods.length cg) (fun k hk => by have := HLOW.out k (.inr hk); have := HB4.out.1; omega))
      have HB5 : Hid (Below w.heap.size w ((w3.setCell ⟨b4, 0, none⟩ (.slice at_ X.tills.length ct)).setCell ⟨b4, 1, none⟩ (.slice ag X.goods.length cg))) := hid (by
        have hb := HB3.out
        have u := (Upd.setCell w3 b4 0 (.slice at_ X.tills.length ct)).trans (Upd.setCell _ b4 1 (.slice ag X.goods.length cg)) (fun _ _ q => q)
        exact hb.trans (u.below hb.size (fun j _ q => by have := HB4.out.1; omega)))
      have HSZ9 : Hid (w3.heap.size ≤ ((w3.setCell ⟨b4, 0, none⟩ (.slice at_ X.tills.length ct)).setCell ⟨b4, 1, none⟩ (.slice ag X.goods.length cg)).heap.size) := hid (by simp [World.setCell])
      generalize World.setCell (World.setCell w3 _ _) _ _ = w9 at HK5 HT5 HG5 HB5 HSZ9
      have k0 : w9.cell? ⟨b4, 0, none⟩ = some (.slice at_ X.tills.length ct) := by rw [HK5.out.cell]; rfl
      have k1 : w9.cell? ⟨b4, 1, none⟩ = some (.slice ag X.goods.length cg) := by rw [HK5.out.cell]; rfl
      clear q0 q1 f0 f1
      refine bodyPost_ret (res_cell_tmp rfl _ _ _ rfl (by go_simp; rfl)) rfl ?_
      exact ⟨_, _, _, _, rfl, ⟨HT5.out, HG5.out, H.out.lt, H.out.lg⟩, HB5.out, fun k hk => ⟨by have := HLOW.out k hk; have := HB5.out.size; omega, .inl hk⟩⟩
    by_cases h3 : 1099511627776 < p
    · skip
      have hE := putE_p hf h1 (.inr h3)
      rw [putX_not hE (by omega), hE]
      have HF := hid hf
      clear hi hn hf hE
      go_enter Try.func18, Try.ntmps18
      go_upto_region 1 with fail
      generalize hw2 : World.alloc (World.alloc w _) _ = w2
      obtain ⟨bs, hbs⟩ : ∃ b, b = w.heap.size := ⟨_, rfl⟩
      obtain ⟨b4, hb4⟩ : ∃ b, b = w.heap.size + 1 := ⟨_, rfl⟩
      have hz1 : (World.alloc w (.cells #[.slice at_ X.tills.length ct, .slice ag X.goods.length cg] 46)).heap.size = w.heap.size + 1 := by simp
      try rw [hz1]
      try rw [← hb4]
      try rw [← hbs]
      have hb2 : Below w.heap.size w w2 := by rw [← hw2]; exact Below.next (Below.new _ _) (Below.new _ _)
      have HK : Hid (Blk w2 bs #[.slice at_ X.tills.length ct, .slice ag X.goods.length cg]) := hid (by rw [← hw2, hbs]; exact (Blk.new w _ _).below (Below.new _ _))
      have HK4 : Hid (Blk w2 b4 #[.slice none 0 0, .slice none 0 0]) := hid (by rw [← hw2, hb4, ← hz1]; exact Blk.new _ _ _)
      have H2 := hid (H.out.below hb2)
      have HB2 := hid hb2
      have HB4 : Hid (w.heap.size ≤ b4 ∧ b4 < w2.heap.size ∧ b4 ≠ bs) := hid (by have := HK4.out.lt; omega)
      clear hw2 hbs hb4 hz1 hb2
      have c0 : w2.cell? ⟨bs, 0, none⟩ = some (.slice at_ X.tills.length ct) := by rw [HK.out.cell]; rfl
      have c1 : w2.cell? ⟨bs, 1, none⟩ = some (.slice ag X.goods.length cg) := by rw [HK.out.cell]; rfl
      go_wp2_with fail
      refine (ref23_Has w2 H2.out k).mono ?_
      rintro e w3 ⟨r, rfl, hr, hb3⟩
      obtain ⟨i0, rfl⟩ : ∃ i0 : Nat, r = (i0 : Int) := by
        rcases hr with ⟨i, g, q1, -, -⟩ | ⟨-, q⟩
        · exact ⟨i, q1⟩
        · rw [HF.out] at q; simp at q
      have i00 : (0 : Int) ≤ (i0 : Int) := by omega
      have i01 : ¬ (i0 : Int) < 0 := by omega
      have HK3 := hid (HK.out.below hb3)
      have HK43 := hid (HK4.out.below hb3)
      have H3 := hid (H2.out.below hb3)
      have HB3 := hid (Below.next HB2.out hb3)
      have HBN : Hid (b4 < w3.heap.size) := hid HK43.out.lt
      clear hr hb3 c0 c1
      have c0 : w3.cell? ⟨bs, 0, none⟩ = some (.slice at_ X.tills.length ct) := by rw [HK3.out.cell]; rfl
      have c1 : w3.cell? ⟨bs, 1, none⟩ = some (.slice ag X.goods.length cg) := by rw [HK3.out.cell]; rfl
      have q0 : w3.cell? ⟨b4, 0, none⟩ = some (.slice none 0 0) := by rw [HK43.out.cell]; rfl
      have q1 : w3.cell? ⟨b4, 1, none⟩ = some (.slice none 0 0) := by rw [HK43.out.cell]; rfl
      have f0 : w3.frozen? ⟨b4, 0, none⟩ = false := HK43.out.unfrozen 0
      have f1 : w3.frozen? ⟨b4, 1, none⟩ = false := HK43.out.unfrozen 1
      go_wp2_with fail
      have HK5 : Hid (Blk ((w3.setCell ⟨b4, 0, none⟩ (.slice at_ X.tills.length ct)).setCell ⟨b4, 1, none⟩ (.slice ag X.goods.length cg)) b4 #[.slice at_ X.tills.length ct, .slice ag X.goods.length cg]) := hid (by simpa using (HK43.out.set 0 (.slice at_ X.tills.length ct)).set 1 (.slice ag X.goods.length cg))
      have HT5 := hid (((H3.out.t).set4 (b4 := b4) (i := 0) (u := .slice at_ X.tills.length ct) (fun k hk => by have := HLOW.out k (.inl hk); have := HB4.out.1; omega)).set4 (b4 := b4) (i := 1) (u := .slice ag X.goods.length cg) (fun k hk => by have := HLOW.out k (.inl hk); have := HB4.out.1; omega))
      have HG5 := hid (((H3.out.g).set4 (b4 := b4) (i := 0) (u := .slice at_ X.tills.length ct) (fun k hk => by have := HLOW.out k (.inr hk); have := HB4.out.1; omega)).set4 (b4 := b4) (i := 1) (u := .slice ag X.goods.length cg) (fun k hk => by have := HLOW.out k (.inr hk); have := HB4.out.1; omega))
      have HB5 : Hid (Below w.heap.size w ((w3.setCell ⟨b4, 0, none⟩ (.slice at_ X.tills.length ct)).setCell ⟨b4, 1, none⟩ (.slice ag X.goods.length cg))) := hid (by
        have hb := HB3.out
        have u := (Upd.setCell w3 b4 0 (.slice at_ X.tills.length ct)).trans (Upd.setCell _ b4 1 (.slice ag X.goods.length cg)) (fun _ _ q => q)
        exact hb.trans (u.below hb.size (fun j _ q => by have := HB4.out.1; omega)))
      have HSZ9 : Hid (w3.heap.size ≤ ((w3.setCell ⟨b4, 0, none⟩ (.slice at_ X.tills.length ct)).setCell ⟨b4, 1, none⟩ (.slice ag X.goods.length cg)).heap.size) := hid (by simp [World.setCell])
      generalize World.setCell (World.setCell w3 _ _) _ _ = w9 at HK5 HT5 HG5 HB5 HSZ9
      have k0 : w9.cell? ⟨b4, 0, none⟩ = some (.slice at_ X.tills.length ct) := by rw [HK5.out.cell]; rfl
      have k1 : w9.cell? ⟨b4, 1, none⟩ = some (.slice ag X.goods.length cg) := by rw [HK5.out.cell]; rfl
      clear q0 q1 f0 f1
      refine bodyPost_ret (res_cell_tmp rfl _ _ _ rfl (by go_simp; rfl)) rfl ?_
      exact ⟨_, _, _, _, rfl, ⟨HT5.out, HG5.out, H.out.lt, H.out.lg⟩, HB5.out, fun k hk => ⟨by have := HLOW.out k hk; have := HB5.out.size; omega, .inl hk⟩⟩
    have h23 : ¬ (p < 1 ∨ 1099511627776 < p) := by omega
    cases hg : fdX X.goods t with
    | some q0 =>
      have hE := putE_f hf h1 h23 hg
      rw [putX_not hE (by omega), hE]
      have HF := hid hf
      have HG := hid hg
      clear hi hn hf hE hg h23
      go_enter Try.func18, Try.ntmps18
      go_upto_region 1 with fail
      generalize hw2 : World.alloc (World.alloc w _) _ = w2
      obtain ⟨bs, hbs⟩ : ∃ b, b = w.heap.size := ⟨_, rfl⟩
      obtain ⟨b4, hb4⟩ : ∃ b, b = w.heap.size + 1 := ⟨_, rfl⟩
      have hz1 : (World.alloc w (.cells #[.slice at_ X.tills.length ct, .slice ag X.goods.length cg] 46)).heap.size = w.heap.size + 1 := by simp
      try rw [hz1]
      try rw [← hb4]
      try rw [← hbs]
      have hb2 : Below w.heap.size w w2 := by rw [← hw2]; exact Below.next (Below.new _ _) (Below.new _ _)
      have HK : Hid (Blk w2 bs #[.slice at_ X.tills.length ct, .slice ag X.goods.length cg]) := hid (by rw [← hw2, hbs]; exact (Blk.new w _ _).below (Below.new _ _))
      have HK4 : Hid (Blk w2 b4 #[.slice none 0 0, .slice none 0 0]) := hid (by rw [← hw2, hb4, ← hz1]; exact Blk.new _ _ _)
      have H2 := hid (H.out.below hb2)
      have HB2 := hid hb2
      have HB4 : Hid (w.heap.size ≤ b4 ∧ b4 < w2.heap.size ∧ b4 ≠ bs) := hid (by have := HK4.out.lt; omega)
      clear hw2 hbs hb4 hz1 hb2
      have c0 : w2.cell? ⟨bs, 0, none⟩ = some (.slice at_ X.tills.length ct) := by rw [HK.out.cell]; rfl
      have c1 : w2.cell? ⟨bs, 1, none⟩ = some (.slice ag X.goods.length cg) := by rw [HK.out.cell]; rfl
      go_wp2_with fail
      refine (ref23_Has w2 H2.out k).mono ?_
      rintro e w3 ⟨r, rfl, hr, hb3⟩
      obtain ⟨i0, rfl⟩ : ∃ i0 : Nat, r = (i0 : Int) := by
        rcases hr with ⟨i, g, q1, -, -⟩ | ⟨-, q⟩
        · exact ⟨i, q1⟩
        · rw [HF.out] at q; simp at q
      have i00 : (0 : Int) ≤ (i0 : Int) := by omega
      have i01 : ¬ (i0 : Int) < 0 := by omega
      have HK3 := hid (HK.out.below hb3)
      have HK43 := hid (HK4.out.below hb3)
      have H3 := hid (H2.out.below hb3)
      have HB3 := hid (Below.next HB2.out hb3)
      have HBN : Hid (b4 < w3.heap.size) := hid HK43.out.lt
      clear hr hb3 c0 c1
      have c0 : w3.cell? ⟨bs, 0, none⟩ = some (.slice at_ X.tills.length ct) := by rw [HK3.out.cell]; rfl
      have c1 : w3.cell? ⟨bs, 1, none⟩ = some (.slice ag X.goods.length cg) := by rw [HK3.out.cell]; rfl
      go_wp2_with fail
      refine (ref23_Find w3 H3.out t).mono ?_
      rintro e w4 ⟨r, rfl, hr, hb4_⟩
      obtain ⟨i1, rfl⟩ : ∃ i0 : Nat, r = (i0 : Int) := by
        rcases hr with ⟨i, g, q1, -, -⟩ | ⟨-, q⟩
        · exact ⟨i, q1⟩
        · rw [HG.out] at q; simp at q
      have i10 : (0 : Int) ≤ (i1 : Int) := by omega
      have i11 : ¬ (i1 : Int) < 0 := by omega
      have HK_4 := hid (HK3.out.below hb4_)
      have HK4_4 := hid (HK43.out.below hb4_)
      have H4 := hid (H3.out.below hb4_)
      have HB_4 := hid (Below.next HB3.out hb4_)
      clear hr hb4_ c0 c1
      have c0 : w4.cell? ⟨bs, 0, none⟩ = some (.slice at_ X.tills.length ct) := by rw [HK_4.out.cell]; rfl
      have c1 : w4.cell? ⟨bs, 1, none⟩ = some (.slice ag X.goods.length cg) := by rw [HK_4.out.cell]; rfl
      have q0 : w4.cell? ⟨b4, 0, none⟩ = some (.slice none 0 0) := by rw [HK4_4.out.cell]; rfl
      have q1 : w4.cell? ⟨b4, 1, none⟩ = some (.slice none 0 0) := by rw [HK4_4.out.cell]; rfl
      have f0 : w4.frozen? ⟨b4, 0, none⟩ = false := HK4_4.out.unfrozen 0
      have f1 : w4.frozen? ⟨b4, 1, none⟩ = false := HK4_4.out.unfrozen 1
      go_wp2_with fail
      have HK5 : Hid (Blk ((w4.setCell ⟨b4, 0, none⟩ (.slice at_ X.tills.length ct)).setCell ⟨b4, 1, none⟩ (.slice ag X.goods.length cg)) b4 #[.slice at_ X.tills.length ct, .slice ag X.goods.length cg]) := hid (by simpa using (HK4_4.out.set 0 (.slice at_ X.tills.length ct)).set 1 (.slice ag X.goods.length cg))
      have HT5 := hid (((H4.out.t).set4 (b4 := b4) (i := 0) (u := .slice at_ X.tills.length ct) (fun k hk => by have := HLOW.out k (.inl hk); have := HB4.out.1; omega)).set4 (b4 := b4) (i := 1) (u := .slice ag X.goods.length cg) (fun k hk => by have := HLOW.out k (.inl hk); have := HB4.out.1; omega))
      have HG5 := hid (((H4.out.g).set4 (b4 := b4) (i := 0) (u := .slice at_ X.tills.length ct) (fun k hk => by have := HLOW.out k (.inr hk); have := HB4.out.1; omega)).set4 (b4 := b4) (i := 1) (u := .slice ag X.goods.length cg) (fun k hk => by have := HLOW.out k (.inr hk); have := HB4.out.1; omega))
      have HB5 : Hid (Below w.heap.size w ((w4.setCell ⟨b4, 0, none⟩ (.slice at_ X.tills.length ct)).setCell ⟨b4, 1, none⟩ (.slice ag X.goods.length cg))) := hid (by
        have hb := HB_4.out
        have u := (Upd.setCell w4 b4 0 (.slice at_ X.tills.length ct)).trans (Upd.setCell _ b4 1 (.slice ag X.goods.length cg)) (fun _ _ q => q)
        exact hb.trans (u.below hb.size (fun j _ q => by have := HB4.out.1; omega)))
      have HSZ9 : Hid (w4.heap.size ≤ ((w4.setCell ⟨b4, 0, none⟩ (.slice at_ X.tills.length ct)).setCell ⟨b4, 1, none⟩ (.slice ag X.goods.length cg)).heap.size) := hid (by simp [World.setCell])
      generalize World.setCell (World.setCell w4 _ _) _ _ = w9 at HK5 HT5 HG5 HB5 HSZ9
      have k0 : w9.cell? ⟨b4, 0, none⟩ = some (.slice at_ X.tills.length ct) := by rw [HK5.out.cell]; rfl
      have k1 : w9.cell? ⟨b4, 1, none⟩ = some (.slice ag X.goods.length cg) := by rw [HK5.out.cell]; rfl
      clear q0 q1 f0 f1
      refine bodyPost_ret (res_cell_tmp rfl _ _ _ rfl (by go_simp; rfl)) rfl ?_
      exact ⟨_, _, _, _, rfl, ⟨HT5.out, HG5.out, H.out.lt, H.out.lg⟩, HB5.out, fun k hk => ⟨by have := HLOW.out k hk; have := HB5.out.size; omega, .inl hk⟩⟩
    | none =>
      obtain ⟨M, hM⟩ : ∃ M, M = (X.goods.filter (fun g => g.1 == k)).length := ⟨_, rfl⟩
      by_cases h4 : 16 ≤ (ofX X.goods k).length
      · skip
        have hE := putE_16 hf h1 h23 hg h4
        rw [putX_not hE (by omega), hE]
        have HF := hid hf
        have HG := hid hg
        have HM := hid hM
        have h16 : (16 : Int) ≤ (M : Int) := by rw [ofX_len, ← hM] at h4; omega
        clear hi hn hf hE hg h23 h4 hM
        go_enter Try.func18, Try.ntmps18
        go_upto_region 1 with fail
        generalize hw2 : World.alloc (World.alloc w _) _ = w2
        obtain ⟨bs, hbs⟩ : ∃ b, b = w.heap.size := ⟨_, rfl⟩
        obtain ⟨b4, hb4⟩ : ∃ b, b = w.heap.size + 1 := ⟨_, rfl⟩
        have hz1 : (World.alloc w (.cells #[.slice at_ X.tills.length ct, .slice ag X.goods.length cg] 46)).heap.size = w.heap.size + 1 := by simp
        try rw [hz1]
        try rw [← hb4]
        try rw [← hbs]
        have hb2 : Below w.heap.size w w2 := by rw [← hw2]; exact Below.next (Below.new _ _) (Below.new _ _)
        have HK : Hid (Blk w2 bs #[.slice at_ X.tills.length ct, .slice ag X.goods.length cg]) := hid (by rw [← hw2, hbs]; exact (Blk.new w _ _).below (Below.new _ _))
        have HK4 : Hid (Blk w2 b4 #[.slice none 0 0, .slice none 0 0]) := hid (by rw [← hw2, hb4, ← hz1]; exact Blk.new _ _ _)
        have H2 := hid (H.out.below hb2)
        have HB2 := hid hb2
        have HB4 : Hid (w.heap.size ≤ b4 ∧ b4 < w2.heap.size ∧ b4 ≠ bs) := hid (by have := HK4.out.lt; omega)
        clear hw2 hbs hb4 hz1 hb2
        have c0 : w2.cell? ⟨bs, 0, none⟩ = some (.slice at_ X.tills.length ct) := by rw [HK.out.cell]; rfl
        have c1 : w2.cell? ⟨bs, 1, none⟩ = some (.slice ag X.goods.length cg) := by rw [HK.out.cell]; rfl
        go_wp2_with fail
        refine (ref23_Has w2 H2.out k).mono ?_
        rintro e w3 ⟨r, rfl, hr, hb3⟩
        obtain ⟨i0, rfl⟩ : ∃ i0 : Nat, r = (i0 : Int) := by
          rcases hr with ⟨i, g, q1, -, -⟩ | ⟨-, q⟩
          · exact ⟨i, q1⟩
          · rw [HF.out] at q; simp at q
        have i00 : (0 : Int) ≤ (i0 : Int) := by omega
        have i01 : ¬ (i0 : Int) < 0 := by omega
        have HK3 := hid (HK.out.below hb3)
        have HK43 := hid (HK4.out.below hb3)
        have H3 := hid (H2.out.below hb3)
        have HB3 := hid (Below.next HB2.out hb3)
        have HBN : Hid (b4 < w3.heap.size) := hid HK43.out.lt
        clear hr hb3 c0 c1
        have c0 : w3.cell? ⟨bs, 0, none⟩ = some (.slice at_ X.tills.length ct) := by rw [HK3.out.cell]; rfl
        have c1 : w3.cell? ⟨bs, 1, none⟩ = some (.slice ag X.goods.length cg) := by rw [HK3.out.cell]; rfl
        go_wp2_with fail
        refine (ref23_Find w3 H3.out t).mono ?_
        rintro e w4 ⟨r, rfl, hr, hb4_⟩
        obtain rfl : r = -1 := by
          rcases hr with ⟨i, g, -, -, q⟩ | ⟨q, -⟩
          · rw [HG.out] at q; simp at q
          · exact q
        have HK_4 := hid (HK3.out.below hb4_)
        have HK4_4 := hid (HK43.out.below hb4_)
        have H4 := hid (H3.out.below hb4_)
        have HB_4 := hid (Below.next HB3.out hb4_)
        clear hr hb4_ c0 c1
        have c0 : w4.cell? ⟨bs, 0, none⟩ = some (.slice at_ X.tills.length ct) := by rw [HK_4.out.cell]; rfl
        have c1 : w4.cell? ⟨bs, 1, none⟩ = some (.slice ag X.goods.length cg) := by rw [HK_4.out.cell]; rfl
        go_wp2_with fail
        refine (ref23_Of w4 H4.out k).mono ?_
        rintro e w5 ⟨v, rfl, hown, hb5_⟩
        obtain ⟨av0, cv0, rfl, -⟩ := owns_sl hown
        rw [← HM.out]
        have HK_5 := hid (HK_4.out.below hb5_)
        have HK4_5 := hid (HK4_4.out.below hb5_)
        have H5 := hid (H4.out.below hb5_)
        have HB_5 := hid (Below.next HB_4.out hb5_)
        clear hown hb5_ c0 c1
        have HBN : Hid (b4 < w5.heap.size) := hid HK4_5.out.lt
        have c0 : w5.cell? ⟨bs, 0, none⟩ = some (.slice at_ X.tills.length ct) := by rw [HK_5.out.cell]; rfl
        have c1 : w5.cell? ⟨bs, 1, none⟩ = some (.slice ag X.goods.length cg) := by rw [HK_5.out.cell]; rfl
        have q0 : w5.cell? ⟨b4, 0, none⟩ = some (.slice none 0 0) := by rw [HK4_5.out.cell]; rfl
        have q1 : w5.cell? ⟨b4, 1, none⟩ = some (.slice none 0 0) := by rw [HK4_5.out.cell]; rfl
        have f0 : w5.frozen? ⟨b4, 0, none⟩ = false := HK4_5.out.unfrozen 0
        have f1 : w5.frozen? ⟨b4, 1, none⟩ = false := HK4_5.out.unfrozen 1
        go_wp2_with fail
        have HK5 : Hid (Blk ((w5.setCell ⟨b4, 0, none⟩ (.slice at_ X.tills.length ct)).setCell ⟨b4, 1, none⟩ (.slice ag X.goods.length cg)) b4 #[.slice at_ X.tills.length ct, .slice ag X.goods.length cg]) := hid (by simpa using (HK4_5.out.set 0 (.slice at_ X.tills.length ct)).set 1 (.slice ag X.goods.length cg))
        have HT5 := hid (((H5.out.t).set4 (b4 := b4) (i := 0) (u := .slice at_ X.tills.length ct) (fun k hk => by have := HLOW.out k (.inl hk); have := HB4.out.1; omega)).set4 (b4 := b4) (i := 1) (u := .slice ag X.goods.length cg) (fun k hk => by have := HLOW.out k (.inl hk); have := HB4.out.1; omega))
        have HG5 := hid (((H5.out.g).set4 (b4 := b4) (i := 0) (u := .slice at_ X.tills.length ct) (fun k hk => by have := HLOW.out k (.inr hk); have := HB4.out.1; omega)).set4 (b4 := b4) (i := 1) (u := .slice ag X.goods.length cg) (fun k hk => by have := HLOW.out k (.inr hk); have := HB4.out.1; omega))
        have HB5 : Hid (Below w.heap.size w ((w5.setCell ⟨b4, 0, none⟩ (.slice at_ X.tills.length ct)).setCell ⟨b4, 1, none⟩ (.slice ag X.goods.length cg))) := hid (by
          have hb := HB_5.out
          have u := (Upd.setCell w5 b4 0 (.slice at_ X.tills.length ct)).trans (Upd.setCell _ b4 1 (.slice ag X.goods.length cg)) (fun _ _ q => q)
          exact hb.trans (u.below hb.size (fun j _ q => by have := HB4.out.1; omega)))
        have HSZ9 : Hid (w5.heap.size ≤ ((w5.setCell ⟨b4, 0, none⟩ (.slice at_ X.tills.length ct)).setCell ⟨b4, 1, none⟩ (.slice ag X.goods.length cg)).heap.size) := hid (by simp [World.setCell])
        generalize World.setCell (World.setCell w5 _ _) _ _ = w9 at HK5 HT5 HG5 HB5 HSZ9
        have k0 : w9.cell? ⟨b4, 0, none⟩ = some (.slice at_ X.tills.length ct) := by rw [HK5.out.cell]; rfl
        have k1 : w9.cell? ⟨b4, 1, none⟩ = some (.slice ag X.goods.length cg) := by rw [HK5.out.cell]; rfl
        clear q0 q1 f0 f1
        refine bodyPost_ret (res_cell_tmp rfl _ _ _ rfl (by go_simp; rfl)) rfl ?_
        exact ⟨_, _, _, _, rfl, ⟨HT5.out, HG5.out, H.out.lt, H.out.lg⟩, HB5.out, fun k hk => ⟨by have := HLOW.out k hk; have := HB5.out.size; omega, .inl hk⟩⟩
      · skip
        have hE := putE_ok hf h1 h23 hg h4
        rw [putX_ok hE, hE]
        have HF := hid hf
        have HG := hid hg
        have HM := hid hM
        have h16 : ¬ (16 : Int) ≤ (M : Int) := by rw [ofX_len, ← hM] at h4; omega
        have HSORT := hid hi
        have HNE : Hid (∀ y ∈ X.goods, y.2.1 ≠ t) := hid (fun y hy => fdX_none.1 hg y hy)
        clear hi hf hE hg h23 h4 hM
        go_enter Try.func18, Try.ntmps18
        go_upto_region 1 with fail
        generalize hw2 : World.alloc (World.alloc w _) _ = w2
        obtain ⟨bs, hbs⟩ : ∃ b, b = w.heap.size := ⟨_, rfl⟩
        obtain ⟨b4, hb4⟩ : ∃ b, b = w.heap.size + 1 := ⟨_, rfl⟩
        have hz1 : (World.alloc w (.cells #[.slice at_ X.tills.length ct, .slice ag X.goods.length cg] 46)).heap.size = w.heap.size + 1 := by simp
        try rw [hz1]
        try rw [← hb4]
        try rw [← hbs]
        have hb2 : Below w.heap.size w w2 := by rw [← hw2]; exact Below.next (Below.new _ _) (Below.new _ _)
        have HK : Hid (Blk w2 bs #[.slice at_ X.tills.length ct, .slice ag X.goods.length cg]) := hid (by rw [← hw2, hbs]; exact (Blk.new w _ _).below (Below.new _ _))
        have HK4 : Hid (Blk w2 b4 #[.slice none 0 0, .slice none 0 0]) := hid (by rw [← hw2, hb4, ← hz1]; exact Blk.new _ _ _)
        have H2 := hid (H.out.below hb2)
        have HB2 := hid hb2
        have HB4 : Hid (w.heap.size ≤ b4 ∧ b4 < w2.heap.size ∧ b4 ≠ bs) := hid (by have := HK4.out.lt; omega)
        clear hw2 hbs hb4 hz1 hb2
        have c0 : w2.cell? ⟨bs, 0, none⟩ = some (.slice at_ X.tills.length ct) := by rw [HK.out.cell]; rfl
        have c1 : w2.cell? ⟨bs, 1, none⟩ = some (.slice ag X.goods.length cg) := by rw [HK.out.cell]; rfl
        go_wp2_with fail
        refine (ref23_Has w2 H2.out k).mono ?_
        rintro e w3 ⟨r, rfl, hr, hb3⟩
        obtain ⟨i0, rfl⟩ : ∃ i0 : Nat, r = (i0 : Int) := by
          rcases hr with ⟨i, g, q1, -, -⟩ | ⟨-, q⟩
          · exact ⟨i, q1⟩
          · rw [HF.out] at q; simp at q
        have i00 : (0 : Int) ≤ (i0 : Int) := by omega
        have i01 : ¬ (i0 : Int) < 0 := by omega
        have HK3 := hid (HK.out.below hb3)
        have HK43 := hid (HK4.out.below hb3)
        have H3 := hid (H2.out.below hb3)
        have HB3 := hid (Below.next HB2.out hb3)
        clear hr hb3 c0 c1
        have c0 : w3.cell? ⟨bs, 0, none⟩ = some (.slice at_ X.tills.length ct) := by rw [HK3.out.cell]; rfl
        have c1 : w3.cell? ⟨bs, 1, none⟩ = some (.slice ag X.goods.length cg) := by rw [HK3.out.cell]; rfl
        go_wp2_with fail
        refine (ref23_Find w3 H3.out t).mono ?_
        rintro e w4 ⟨r, rfl, hr, hb4_⟩
        obtain rfl : r = -1 := by
          rcases hr with ⟨i, g, -, -, q⟩ | ⟨q, -⟩
          · rw [HG.out] at q; simp at q
          · exact q
        have HK_4 := hid (HK3.out.below hb4_)
        have HK4_4 := hid (HK43.out.below hb4_)
        have H4 := hid (H3.out.below hb4_)
        have HB_4 := hid (Below.next HB3.out hb4_)
        clear hr hb4_ c0 c1
        have c0 : w4.cell? ⟨bs, 0, none⟩ = some (.slice at_ X.tills.length ct) := by rw [HK_4.out.cell]; rfl
        have c1 : w4.cell? ⟨bs, 1, none⟩ = some (.slice ag X.goods.length cg) := by rw [HK_4.out.cell]; rfl
        go_wp2_with fail
        refine (ref23_Of w4 H4.out k).mono ?_
        rintro e w5 ⟨v, rfl, hown, hb5_⟩
        obtain ⟨av0, cv0, rfl, -⟩ := owns_sl hown
        rw [← HM.out]
        have HK_5 := hid (HK_4.out.below hb5_)
        have HK4_5 := hid (HK4_4.out.below hb5_)
        have H5 := hid (H4.out.below hb5_)
        have HB_5 := hid (Below.next HB_4.out hb5_)
        clear hown hb5_ c0 c1
        have HBN : Hid (b4 < w5.heap.size) := hid HK4_5.out.lt
        have c0 : w5.cell? ⟨bs, 0, none⟩ = some (.slice at_ X.tills.length ct) := by rw [HK_5.out.cell]; rfl
        have c1 : w5.cell? ⟨bs, 1, none⟩ = some (.slice ag X.goods.length cg) := by rw [HK_5.out.cell]; rfl
        go_wp2_with fail
        go_loopw [10, 11, 12] (fun vo vd vi wr => InsRG w5 X.goods k t p vo vd vi wr) (fun _ _ vi _ => X.goods.length - (intOf vi).toNat)
        case atStart => exact ⟨0, false, _, rfl, rfl, rfl, by simp, by omega, hid (by rw [insP_zero]; simpa [tv] using World.ownsRow_nil _ _ _ _), hid (Below.refl _ _)⟩
        case round =>
          obtain ⟨j, dn, vo, hvo, rfl, rfl, hdn, hj, hown, hb⟩ := hrel
          subst hvo
          have HKR := hid (HK_5.out.below hb.out)
          have HK4R := hid (HK4_5.out.below hb.out)
          have c0 : wr.cell? ⟨bs, 0, none⟩ = some (.slice at_ X.tills.length ct) := by rw [HKR.out.cell]; rfl
          have c1 : wr.cell? ⟨bs, 1, none⟩ = some (.slice ag X.goods.length cg) := by rw [HKR.out.cell]; rfl
          have hfl : (insP kG X.goods (k, t, p) j).length ≤ 100001 := Nat.le_trans (insP_len _ _ _ _) (by omega)
          by_cases hlt : j < X.goods.length
          · have j1 : (j : Int) < (X.goods.length : Int) := by omega
            have j0 : (0 : Int) ≤ (j : Int) := by omega
            obtain ⟨a', c', e', hrd, -⟩ := H5.out.g.below hb.out
            simp only [Value.slice.injEq, true_and] at e'
            obtain ⟨rfl, rfl⟩ := e'
            obtain ⟨b0, off, x, y, z, rfl, d0, d1, d2, hatj, -, -⟩ := hrd.triple j hlt
            have hsz := hb.out.size
            clear hrd
            by_cases hd : dn = true
            · subst hd
              obtain ⟨hP', hw⟩ := insP_done kG (x := (k, t, p)) hatj (of_decide_eq_true hdn.symm)
              have HW := hid hw
              have HP := hid hP'
              clear hdn hw hP' hatj
              go_wp2_with (at_builtin; refine wpList_append1w T_g3 _ rfl _ _ #[.int .i64 x, .int .i64 y, .int .i64 z] rfl w5.heap.size _ _ _ rfl hown.out rfl rfl ?a16 ?b16 ?c16 ?_)
              any_goals (first | exact ⟨rfl, rfl, rfl⟩ | omega)
              intro v' w1 hown' hgrow hne hwh
              have HO : Hid (w1.ownsRow w5.heap.size 81 3 v' (insP kG X.goods (k, t, p) (j + 1)).length (tv (insP kG X.goods (k, t, p) (j + 1)))) := hid (by
                rw [HW.out, tv_append, List.length_append]; exact hown')
              have HB : Hid (Below w5.heap.size w5 w1) := hid (hb.out.grown hgrow hsz (fun j hj => (hown.out.lt j hj).1))
              clear hown' hgrow hwh hne c0 c1
              go_wp2
              go_roundw
              case rel => exact ⟨j + 1, true, _, rfl, rfl, by go_num, (decide_eq_true HP.out).symm, by omega, HO, HB⟩
              case measure => simp [intOf]; omega
            · obtain rfl : dn = false := by simpa using hd
              have hP := of_decide_eq_false hdn.symm
              by_cases hgt : t < y
              · obtain ⟨hP', hw⟩ := insP_here kG (x := (k, t, p)) hatj HSORT.out hP hgt
                have HW := hid hw
                have HP := hid hP'
                have HAT := hid hatj
                clear hdn hw hP' hatj hd hP
                go_wp2_with (at_builtin; refine wpList_append1w T_g3 _ rfl _ _ #[.int .i64 k, .int .i64 t, .int .i64 p] rfl w5.heap.size _ _ _ rfl hown.out rfl rfl ?a17 ?b17 ?c17 ?_)
                any_goals (first | exact ⟨rfl, rfl, rfl⟩ | omega)
                intro v' w1 hown' hgrow hne hwh
                have HB1 := hid (hb.out.grown hgrow hsz (fun j hj => (hown.out.lt j hj).1))
                have HKR1 := hid (HK_5.out.below HB1.out)
                have HOA : Hid (w1.ownsRow w5.heap.size 81 3 v' ((insP kG X.goods (k, t, p) j) ++ [(k, t, p)]).length (tv ((insP kG X.goods (k, t, p) j) ++ [(k, t, p)]))) := hid (by
                  rw [tv_append, List.length_append]; exact hown')
                have hfl1 : ((insP kG X.goods (k, t, p) j) ++ [(k, t, p)]).length ≤ 100002 := by rw [List.length_append]; simp only [List.length_singleton]; omega
                have hsz1 := HB1.out.size
                clear hown' hgrow hwh hne c0 c1 d0 d1 d2
                have c0 : w1.cell? ⟨bs, 0, none⟩ = some (.slice at_ X.tills.length ct) := by rw [HKR1.out.cell]; rfl
                have c1 : w1.cell? ⟨bs, 1, none⟩ = some (.slice (some ⟨b0, off, none⟩) X.goods.length cg) := by rw [HKR1.out.cell]; rfl
                obtain ⟨a', c', e', hrd, -⟩ := H5.out.g.below HB1.out
                simp only [Value.slice.injEq, true_and] at e'
                obtain ⟨rfl, rfl⟩ := e'
                obtain ⟨d0, d1, d2⟩ := hrd.triple_at HAT.out
                clear hrd
                go_wp2_with (at_builtin; refine wpList_append1w T_g3 _ rfl _ _ #[.int .i64 x, .int .i64 y, .int .i64 z] rfl w5.heap.size _ _ _ rfl HOA.out rfl rfl ?a18 ?b18 ?c18 ?_)
                any_goals (first | exact ⟨rfl, rfl, rfl⟩ | omega)
                intro v2 w7 hown' hgrow hne hwh
                have HO : Hid (w7.ownsRow w5.heap.size 81 3 v2 (insP kG X.goods (k, t, p) (j + 1)).length (tv (insP kG X.goods (k, t, p) (j + 1)))) := hid (by
                  rw [HW.out, tv_append (_ ++ _)]; simp only [List.length_append, List.length_singleton]; exact hown')
                have HB : Hid (Below w5.heap.size w5 w7) := hid (HB1.out.grown hgrow hsz1 (fun j hj => (HOA.out.lt j hj).1))
                clear hown' hgrow hwh hne c0 c1 d0 d1 d2
                go_wp2
                go_roundw
                case rel => exact ⟨j + 1, true, _, rfl, rfl, by go_num, (decide_eq_true HP.out).symm, by omega, HO, HB⟩
                case measure => simp [intOf]; omega
              · have hne0 : y ≠ t := HNE.out _ (List.mem_of_getElem? hatj)
                obtain ⟨hP', hw⟩ := insP_less kG (x := (k, t, p)) hatj HSORT.out hP (by show y < t; omega)
                have HW := hid hw
                have HP := hid hP'
                clear hdn hw hP' hatj hd hP hne0
                go_wp2_with (at_builtin; refine wpList_append1w T_g3 _ rfl _ _ #[.int .i64 x, .int .i64 y, .int .i64 z] rfl w5.heap.size _ _ _ rfl hown.out rfl rfl ?a19 ?b19 ?c19 ?_)
                any_goals (first | exact ⟨rfl, rfl, rfl⟩ | omega)
                intro v' w1 hown' hgrow hne hwh
                have HO : Hid (w1.ownsRow w5.heap.size 81 3 v' (insP kG X.goods (k, t, p) (j + 1)).length (tv (insP kG X.goods (k, t, p) (j + 1)))) := hid (by
                  rw [HW.out, tv_append, List.length_append]; exact hown')
                have HB : Hid (Below w5.heap.size w5 w1) := hid (hb.out.grown hgrow hsz (fun j hj => (hown.out.lt j hj).1))
                clear hown' hgrow hwh hne c0 c1
                go_wp2
                go_roundw
                case rel => exact ⟨j + 1, false, _, rfl, rfl, by go_num, (decide_eq_false HP.out).symm, by omega, HO, HB⟩
                case measure => simp [intOf]; omega
          · have ej : j = X.goods.length := by omega
            have hdn2 := hdn
            rw [ej] at hown hdn2
            have j1 : ¬ (j : Int) < (X.goods.length : Int) := by omega
            clear ej
            by_cases hd : dn = true
            · subst hd
              rw [insP_all kG (x := (k, t, p)) (of_decide_eq_true hdn2.symm)] at hown
              clear hdn hdn2
              obtain ⟨av, cv, rfl, hlo⟩ := owns_sl hown.out
              have HLO := hid hlo
              have HSL : Hid (Sl3 wr (.slice av (insK kG X.goods (k, t, p)).length cv) (insK kG X.goods (k, t, p))) := hid (Sl3.of_own hown.out)
              have HR := hid (H5.out.below hb.out)
              have HBR := hid (Below.next HB_5.out hb.out)
              have hdl : (insK kG X.goods (k, t, p)).length ≤ 100000 := by rw [insK_len]; omega
              obtain ⟨N, hN⟩ : ∃ N, N = (insK kG X.goods (k, t, p)).length := ⟨_, rfl⟩
              have HNN := hid hN
              clear hlo hown
              try rw [← hN]
              clear hN
              have q0 : wr.cell? ⟨b4, 0, none⟩ = some (.slice none 0 0) := by rw [HK4R.out.cell]; rfl
              have q1 : wr.cell? ⟨b4, 1, none⟩ = some (.slice none 0 0) := by rw [HK4R.out.cell]; rfl
              have f0 : wr.frozen? ⟨b4, 0, none⟩ = false := HK4R.out.unfrozen 0
              have f1 : wr.frozen? ⟨b4, 1, none⟩ = false := HK4R.out.unfrozen 1
              go_wp2_with fail
              have HK5 : Hid (Blk ((wr.setCell ⟨b4, 0, none⟩ (.slice at_ X.tills.length ct)).setCell ⟨b4, 1, none⟩ (.slice av N cv)) b4 #[.slice at_ X.tills.length ct, .slice av N cv]) := hid (by simpa using (HK4R.out.set 0 (.slice at_ X.tills.length ct)).set 1 (.slice av N cv))
              have HT5 := hid (((HR.out.t).set4 (b4 := b4) (i := 0) (u := .slice at_ X.tills.length ct) (fun k hk => by have := HLOW.out k (.inl hk); have := HB4.out.1; omega)).set4 (b4 := b4) (i := 1) (u := .slice av N cv) (fun k hk => by have := HLOW.out k (.inl hk); have := HB4.out.1; omega))
              have HG5 := hid (((HSL.out).set4 (b4 := b4) (i := 0) (u := .slice at_ X.tills.length ct) (fun q hq => by have := (HLO.out q hq).1; have := HBN.out; omega)).set4 (b4 := b4) (i := 1) (u := .slice av N cv) (fun q hq => by have := (HLO.out q hq).1; have := HBN.out; omega))
              have HB5 : Hid (Below w.heap.size w ((wr.setCell ⟨b4, 0, none⟩ (.slice at_ X.tills.length ct)).setCell ⟨b4, 1, none⟩ (.slice av N cv))) := hid (by
                have hb := HBR.out
                have u := (Upd.setCell wr b4 0 (.slice at_ X.tills.length ct)).trans (Upd.setCell _ b4 1 (.slice av N cv)) (fun _ _ q => q)
                exact hb.trans (u.below hb.size (fun j _ q => by have := HB4.out.1; omega)))
              have HSZ9 : Hid (wr.heap.size ≤ ((wr.setCell ⟨b4, 0, none⟩ (.slice at_ X.tills.length ct)).setCell ⟨b4, 1, none⟩ (.slice av N cv)).heap.size) := hid (by simp [World.setCell])
              generalize World.setCell (World.setCell wr _ _) _ _ = w9 at HK5 HT5 HG5 HB5 HSZ9
              have k0 : w9.cell? ⟨b4, 0, none⟩ = some (.slice at_ X.tills.length ct) := by rw [HK5.out.cell]; rfl
              have k1 : w9.cell? ⟨b4, 1, none⟩ = some (.slice av N cv) := by rw [HK5.out.cell]; rfl
              clear q0 q1 f0 f1
              refine bodyPost_ret (res_cell_tmp rfl _ _ _ rfl (by go_simp; rfl)) rfl ?_
              refine ⟨at_, ct, av, cv, by rw [HNN.out]; rfl, ⟨HT5.out, HG5.out, H.out.lt, hdl⟩, HB5.out, fun q hq => ?_⟩
              rcases hq with hq | hq
              · exact ⟨by have := HLOW.out q (.inl hq); have := HB5.out.size; omega, .inl (.inl hq)⟩
              · exact ⟨by have := (HLO.out q hq).2; have := HSZ9.out; omega, .inr (by have := (HLO.out q hq).1; have := HB_5.out.size; omega)⟩
            · obtain rfl : dn = false := by simpa using hd
              have hw := insP_last kG (x := (k, t, p)) (of_decide_eq_false hdn2.symm)
              have HW := hid hw
              have hsz := hb.out.size
              have hfl3 : (insP kG X.goods (k, t, p) X.goods.length).length ≤ 100001 := Nat.le_trans (insP_len _ _ _ _) (by omega)
              clear hdn hdn2 hw hd
              go_wp2_with (at_builtin; refine wpList_append1w T_g3 _ rfl _ _ #[.int .i64 k, .int .i64 t, .int .i64 p] rfl w5.heap.size _ _ _ rfl hown.out rfl rfl ?a20 ?b20 ?c20 ?_)
              any_goals (first | exact ⟨rfl, rfl, rfl⟩ | omega)
              intro v' w1 hown' hgrow hne hwh
              have HO : Hid (w1.ownsRow w5.heap.size 81 3 v' (insK kG X.goods (k, t, p)).length (tv (insK kG X.goods (k, t, p)))) := hid (by
                rw [← HW.out, tv_append, List.length_append]; exact hown')
              have HB1 := hid (hb.out.grown hgrow hsz (fun j hj => (hown.out.lt j hj).1))
              have HKR1 := hid (HK_5.out.below HB1.out)
              have HK41 := hid (HK4_5.out.below HB1.out)
              clear hown' hgrow hwh hne c0 c1
              have c0 : w1.cell? ⟨bs, 0, none⟩ = some (.slice at_ X.tills.length ct) := by rw [HKR1.out.cell]; rfl
              have c1 : w1.cell? ⟨bs, 1, none⟩ = some (.slice ag X.goods.length cg) := by rw [HKR1.out.cell]; rfl
              obtain ⟨av, cv, rfl, hlo⟩ := owns_sl HO.out
              have HLO := hid hlo
              have HSL : Hid (Sl3 w1 (.slice av (insK kG X.goods (k, t, p)).length cv) (insK kG X.goods (k, t, p))) := hid (Sl3.of_own HO.out)
              have HR := hid (H5.out.below HB1.out)
              have HBR := hid (Below.next HB_5.out HB1.out)
              have hdl : (insK kG X.goods (k, t, p)).length ≤ 100000 := by rw [insK_len]; omega
              obtain ⟨N, hN⟩ : ∃ N, N = (insK kG X.goods (k, t, p)).length := ⟨_, rfl⟩
              have HNN := hid hN
              clear hlo HO
              try rw [← hN]
              clear hN
              have q0 : w1.cell? ⟨b4, 0, none⟩ = some (.slice none 0 0) := by rw [HK41.out.cell]; rfl
              have q1 : w1.cell? ⟨b4, 1, none⟩ = some (.slice none 0 0) := by rw [HK41.out.cell]; rfl
              have f0 : w1.frozen? ⟨b4, 0, none⟩ = false := HK41.out.unfrozen 0
              have f1 : w1.frozen? ⟨b4, 1, none⟩ = false := HK41.out.unfrozen 1
              go_wp2_with fail
              have HK5 : Hid (Blk ((w1.setCell ⟨b4, 0, none⟩ (.slice at_ X.tills.length ct)).setCell ⟨b4, 1, none⟩ (.slice av N cv)) b4 #[.slice at_ X.tills.length ct, .slice av N cv]) := hid (by simpa using (HK41.out.set 0 (.slice at_ X.tills.length ct)).set 1 (.slice av N cv))
              have HT5 := hid (((HR.out.t).set4 (b4 := b4) (i := 0) (u := .slice at_ X.tills.length ct) (fun k hk => by have := HLOW.out k (.inl hk); have := HB4.out.1; omega)).set4 (b4 := b4) (i := 1) (u := .slice av N cv) (fun k hk => by have := HLOW.out k (.inl hk); have := HB4.out.1; omega))
              have HG5 := hid (((HSL.out).set4 (b4 := b4) (i := 0) (u := .slice at_ X.tills.length ct) (fun q hq => by have := (HLO.out q hq).1; have := HBN.out; omega)).set4 (b4 := b4) (i := 1) (u := .slice av N cv) (fun q hq => by have := (HLO.out q hq).1; have := HBN.out; omega))
              have HB5 : Hid (Below w.heap.size w ((w1.setCell ⟨b4, 0, none⟩ (.slice at_ X.tills.length ct)).setCell ⟨b4, 1, none⟩ (.slice av N cv))) := hid (by
                have hb := HBR.out
                have u := (Upd.setCell w1 b4 0 (.slice at_ X.tills.length ct)).trans (Upd.setCell _ b4 1 (.slice av N cv)) (fun _ _ q => q)
                exact hb.trans (u.below hb.size (fun j _ q => by have := HB4.out.1; omega)))
              have HSZ9 : Hid (w1.heap.size ≤ ((w1.setCell ⟨b4, 0, none⟩ (.slice at_ X.tills.length ct)).setCell ⟨b4, 1, none⟩ (.slice av N cv)).heap.size) := hid (by simp [World.setCell])
              generalize World.setCell (World.setCell w1 _ _) _ _ = w9 at HK5 HT5 HG5 HB5 HSZ9
              have k0 : w9.cell? ⟨b4, 0, none⟩ = some (.slice at_ X.tills.length ct) := by rw [HK5.out.cell]; rfl
              have k1 : w9.cell? ⟨b4, 1, none⟩ = some (.slice av N cv) := by rw [HK5.out.cell]; rfl
              clear q0 q1 f0 f1
              refine bodyPost_ret (res_cell_tmp rfl _ _ _ rfl (by go_simp; rfl)) rfl ?_
              refine ⟨at_, ct, av, cv, by rw [HNN.out]; rfl, ⟨HT5.out, HG5.out, H.out.lt, hdl⟩, HB5.out, fun q hq => ?_⟩
              rcases hq with hq | hq
              · exact ⟨by have := HLOW.out q (.inl hq); have := HB5.out.size; omega, .inl (.inl hq)⟩
              · exact ⟨by have := (HLO.out q hq).2; have := HSZ9.out; omega, .inr (by have := (HLO.out q hq).1; have := HB_5.out.size; omega)⟩
end Go.Proofs.Ytajfjgekcjkedaa
end
