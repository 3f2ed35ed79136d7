/- Joined texts, in this order: FolkNames. Each one's first remark says what it proves; no condition beyond those that its theorems name. -/
import Derived.Test.YtcjdlckfbkdibaaDoorJLawFolkRestores21
import Derived.Test.YtcjdlckfbkdibaaDoorJLawFolkRestores19
import Derived.Test.YtcjdlckfbkdibaaDoorJLawFolkRestores22
section
/- The law FolkNames. -/
namespace Go.Proofs.YtcjdlckfbkdibaaDoor
open Go.RowKit Go.ChangeShapes Go.WideShapes Go.Deep Go.Joins
open Go.Lib (hid)
set_option linter.unusedVariables false

/-- both stand apart -/
def SepF (g b : Nat) (v : Value) (d : Nat) (vn vg : Value) : Prop := ∀ k, (k = g ∨ k = b ∨ v.ownBlock = some k) → ¬ (k = d ∨ vn.ownBlock = some k ∨ vg.ownBlock = some k)
/-- both tell the same list -/
structure BothF (w0 w : World) (g b : Nat) (v : Value) (d : Nat) (vn vg : Value) (L : List (List UInt8 × Int)) (held total : Int) : Prop where
  f : FkIs w g b v L held total
  r : RefIs w d vn vg L held
  sep : SepF g b v d vn vg
  bl : Below w0.heap.size w0 w
  far : ∀ k, (k = g ∨ k = b ∨ v.ownBlock = some k) ∨ (k = d ∨ vn.ownBlock = some k ∨ vg.ownBlock = some k) → w0.heap.size ≤ k
theorem FkIs.lt {w : World} {g b : Nat} {v : Value} {L : List (List UInt8 × Int)} {held total : Int} (h : FkIs w g b v L held total) : ∀ k, (k = g ∨ k = b ∨ v.ownBlock = some k) → k < w.heap.size := fun k hk => by
  rcases hk with rfl | rfl | hk
  · exact h.blk.lt
  · exact h.map.lt
  · exact (h.own.lt k hk).2
theorem RefIs.lt {w : World} {d : Nat} {vn vg : Value} {L : List (List UInt8 × Int)} {held : Int} (h : RefIs w d vn vg L held) : ∀ k, (k = d ∨ vn.ownBlock = some k ∨ vg.ownBlock = some k) → k < w.heap.size := fun k hk => by
  rcases hk with rfl | hk | hk
  · exact h.blk.lt
  · exact (h.on.lt k hk).2
  · exact (h.og.lt k hk).2
set_option maxRecDepth 100000 in
set_option maxHeartbeats 2000000 in
theorem law17_step1 (w0 : World) (g b : Nat) (v : Value) (d : Nat) (vn vg : Value) (L : List (List UInt8 × Int)) (held total : Int) (w : World) (h : BothF w0 w g b v d vn vg L held total) (hlen : L.length ≤ 256) (x : List UInt8) (hx : x.length ≤ 1000) (a1 a2 a3 : Int) :
    Calls Tryd.prog 15 #[.pointer (some ⟨g, 0, none⟩), .pointer (some ⟨d, 0, none⟩), .agg #[.int .i64 1, .int .i64 a1, .int .i64 a2, .int .i64 a3, .string ⟨x.toArray⟩]] w fun e w' => ∃ v' vn' vg', e = .returned (.bool true) ∧ BothF w0 w' g b v' d vn' vg' (addFL L x) held total := by
  have H := hid h
  clear h
  obtain ⟨I, hI⟩ : ∃ I, addFI L x = I := ⟨_, rfl⟩
  obtain ⟨E, hE⟩ : ∃ E, addFE L x = E := ⟨_, rfl⟩
  have HI := hid hI
  have HE := hid hE
  clear hI hE
  go_enter Tryd.func15, Tryd.ntmps15
  go_wp2_with fail
  generalize hw1 : World.alloc w _ = w1
  obtain ⟨bb, hbb⟩ : ∃ bb, bb = w.heap.size := ⟨_, rfl⟩
  rw [← hbb]
  have hb1 : Below w.heap.size w w1 := by rw [← hw1]; exact Below.new _ _
  have HK1 : Hid (Blk w1 bb #[.int .i64 1, .int .i64 a1, .int .i64 a2, .int .i64 a3, .string ⟨x.toArray⟩]) := hid (by rw [← hw1, hbb]; exact Blk.new w _ _)
  have HF1 := hid (H.out.f.below hb1)
  have HR1 := hid (H.out.r.below hb1)
  have HB1 := hid (Below.next H.out.bl hb1)
  have HLT : Hid (∀ k, (k = g ∨ k = b ∨ v.ownBlock = some k) → k < bb) := hid (by rw [hbb]; exact H.out.f.lt)
  clear hw1 hb1 hbb
  refine (folk_Add g b v L held total w1 HF1.out hlen x hx).mono ?_
  rintro e w2 ⟨v2, rfl, hf2, hs2⟩
  rw [HI.out, HE.out]
  have HF2 := hid hf2
  have HR2 := hid (HR1.out.upd hs2.upd (fun q => H.out.sep d q (.inl rfl)) (fun k hk q => H.out.sep k q (.inr (.inl hk))) (fun k hk q => H.out.sep k q (.inr (.inr hk))))
  have HB2 : Hid (Below w0.heap.size w0 w2) := hid (HB1.out.trans (hs2.upd.below HB1.out.size (fun k _ q => H.out.far k (.inl q))))
  have HV2 : Hid (∀ k, v2.ownBlock = some k → v.ownBlock = some k ∨ w1.heap.size ≤ k) := hid hs2.wh
  have c4 : w2.cell? ⟨bb, 4, none⟩ = some (.string ⟨x.toArray⟩) := by
    have := HK1.out.upd hs2.upd (fun q => by have := HLT.out bb q; omega)
    rw [this.cell]; rfl
  have HS12 := hid hs2.upd.size
  clear hf2 hs2
  go_wp2_with fail
  refine (ref17_Add d vn vg L held w2 HR2.out hlen x hx).mono ?_
  rintro e w3 ⟨vn3, vg3, rfl, hr3, hs3⟩
  rw [HI.out, HE.out]
  have hsep2 : SepF g b v2 d vn vg := fun k hk q => by
    rcases hk with hk | hk | hk
    · exact H.out.sep k (.inl hk) q
    · exact H.out.sep k (.inr (.inl hk)) q
    · rcases HV2.out k hk with e | e
      · exact H.out.sep k (.inr (.inr e)) q
      · have := HR1.out.lt k q; omega
  have HBF : Hid (BothF w0 w3 g b v2 d vn3 vg3 (addFL L x) held total) := hid (by
    refine ⟨HF2.out.upd hs3.upd (fun q => hsep2 g (.inl rfl) q) (fun q => hsep2 b (.inr (.inl rfl)) q) (fun k hk q => hsep2 k (.inr (.inr hk)) q), hr3, ?_, ?_, ?_⟩
    · intro k hk q
      rcases q with q | q | q
      · exact hsep2 k hk (.inl q)
      · rcases hs3.w1 k q with e | e
        · exact hsep2 k hk (.inr (.inl e))
        · have := HF2.out.lt k hk; omega
      · rcases hs3.w2 k q with e | e
        · exact hsep2 k hk (.inr (.inr e))
        · have := HF2.out.lt k hk; omega
    · exact HB2.out.trans (hs3.upd.below HB2.out.size (fun k _ q => H.out.far k (.inr q)))
    · intro k hk
      have hz0 := HB1.out.size
      have hz1 := HS12.out
      rcases hk with hk | hk
      · rcases hk with hk | hk | hk
        · exact H.out.far k (.inl (.inl hk))
        · exact H.out.far k (.inl (.inr (.inl hk)))
        · rcases HV2.out k hk with e | e
          · exact H.out.far k (.inl (.inr (.inr e)))
          · omega
      · rcases hk with hk | hk | hk
        · exact H.out.far k (.inr (.inl hk))
        · rcases hs3.w1 k hk with e | e
          · exact H.out.far k (.inr (.inr (.inl e)))
          · omega
        · rcases hs3.w2 k hk with e | e
          · exact H.out.far k (.inr (.inr (.inr e)))
          · omega)
  clear hr3 hs3 hsep2 c4
  go_wp2_with fail
  go_ret
  exact ⟨_, _, _, rfl, HBF.out⟩
def StrE (w : World) (f : Nat → Option Value) (q : List UInt8) : Prop := f 0 = some (.string ⟨q.toArray⟩)
theorem strKept : Kept StrE 1 := ⟨fun hb hf h => hf 0 _ (by omega) h, fun h => ⟨_, h⟩⟩
theorem elem_str {H : Type} {enc : TypeId × Value → H} {w : World} (n : Nat) (cs : List Value) (x : DataW H × List MemPlace) (h : DataW.trod enc Tryd.prog w 0 (fun _ => true) true n 9 cs = some x) : ∃ t, StrE w (fun j => cs[j]?) t := by
  obtain ⟨s, e, -, -⟩ := DataW.trod_string Tryd.underlying9 h
  subst e
  exact ⟨s.data.toList, rfl⟩
set_option maxRecDepth 100000 in
theorem open_strsF {H : Type} {enc : TypeId × Value → H} {w : World} {b0 : Nat} {d0 : DataW H} {p0 : List MemPlace} {v0 : Value} (ok0 : Value.okWide Tryd.prog w .any b0 31 v0) (k0 : DataW.Trod enc Tryd.prog w 0 (fun _ => true) true 31 v0 d0 p0) : ∃ L, SlE StrE 1 w v0 L :=
  open_slE strKept Tryd.underlying31 (by kernel_rfl) elem_str ok0 k0
theorem SlE.str {w wr : World} {a : Option Addr} {n c : Nat} {L : List (List UInt8)} (h : SlE StrE 1 w (.slice a n c) L) (hb : Below w.heap.size w wr) {k : Nat} {o : List UInt8} (hp : L[k]? = some o) : ∃ b off, a = some ⟨b, off, none⟩ ∧ wr.cell? ⟨b, off + k, none⟩ = some (.string ⟨o.toArray⟩) := by
  obtain ⟨a', c', e', -, -, -, hrows⟩ := h
  simp only [Value.slice.injEq] at e'
  obtain ⟨rfl, -, rfl⟩ := e'
  obtain ⟨b, off, rfl, hbs, h0⟩ := hrows k o hp
  refine ⟨b, off, rfl, ?_⟩
  have h1 : w.cell? ⟨b, off + k * 1 + 0, none⟩ = some (.string ⟨o.toArray⟩) := h0
  rw [Nat.mul_one, Nat.add_zero] at h1
  rw [← h1]
  exact World.cell?_of_block (hb.block b hbs)
def addsF (l : List (List UInt8)) : List (List UInt8 × Int) := l.foldl addFL []
theorem addsF_len : ∀ (l : List (List UInt8)) (L : List (List UInt8 × Int)), (l.foldl addFL L).length ≤ L.length + l.length
  | [], L => by simp
  | x :: l, L => by
    rw [List.foldl_cons]
    have h1 := addsF_len l (addFL L x)
    have h2 : (addFL L x).length ≤ L.length + 1 := by unfold addFL; split <;> simp
    simp only [List.length_cons]; omega
def NmR (w0 : World) (g b d : Nat) (l : List (List UInt8)) (v27 : Value) (wr : World) : Prop :=
  ∃ (j : Nat) (v vn vg : Value), v27 = .int .i64 (j : Int) ∧ j ≤ l.length ∧ Hid (BothF w0 wr g b v d vn vg (addsF (l.take j)) 0 0)
set_option maxRecDepth 100000 in
set_option maxHeartbeats 4000000 in
theorem law17_Names (l : List (List UInt8)) (a : Option Addr) (c : Nat) (x : List UInt8) (w : World) (hl : SlE StrE 1 w (.slice a l.length c) l) (hn : l.length ≤ 40) (hx : x.length ≤ 60) :
    Calls Tryd.prog 4 #[.slice a l.length c, .string ⟨x.toArray⟩] w fun e w' => e = .returned (.bool true) ∧ Below w.heap.size w w' := by
  have HL := hid hl
  have i1 : ¬ (40 : Int) < (l.length : Int) := by omega
  have hxs : (⟨x.toArray⟩ : ByteArray).size = x.length := by show x.toArray.size = _; rw [List.size_toArray]
  have i2 : ¬ (60 : Int) < (x.length : Int) := by omega
  have HX : Hid ((⟨x.toArray⟩ : ByteArray).size ≤ 9223372036854775807) := hid (by omega)
  clear hl hxs
  go_enter Tryd.func4, Tryd.ntmps4
  go_wp2_with fail
  refine (folk_New w).mono ?_
  rintro e w1 ⟨g, b, rfl, h1, hg, hb, hb1⟩
  have H1 := hid h1
  have HG := hid (And.intro hg hb)
  have HB1 := hid hb1
  clear h1 hg hb hb1
  go_upto_region 7 with fail
  generalize hw2 : World.alloc w1 _ = w2
  obtain ⟨d, hd⟩ : ∃ d, d = w1.heap.size := ⟨_, rfl⟩
  rw [← hd]
  have hb2 : Below w1.heap.size w1 w2 := by rw [← hw2]; exact Below.new _ _
  have HD : Hid (Blk w2 d #[.slice none 0 0, .slice none 0 0, .int .i64 0]) := hid (by rw [← hw2, hd]; exact Blk.new w1 _ _)
  have HBF : Hid (BothF w w2 g b (.slice none 0 0) d (.slice none 0 0) (.slice none 0 0) (addsF (l.take 0)) 0 0) := hid (by
    refine ⟨H1.out.below hb2, ⟨HD.out, World.ownsRow_nil _ _ _ _, World.ownsRow_nil _ _ _ _, by simp [Value.ownBlock], by simp [Value.ownBlock], by simp [Value.ownBlock]⟩, ?_, Below.next HB1.out hb2, ?_⟩
    · intro k hk q
      have := H1.out.lt k hk
      rcases q with q | q | q
      · omega
      · simp [Value.ownBlock] at q
      · simp [Value.ownBlock] at q
    · intro k hk
      have h1 := HG.out.1
      have h2 := HG.out.2
      have h3 := HB1.out.size
      rcases hk with (hk | hk | hk) | (hk | hk | hk)
      · omega
      · omega
      · simp [Value.ownBlock] at hk
      · omega
      · simp [Value.ownBlock] at hk
      · simp [Value.ownBlock] at hk)
  clear hw2 hb2 hd HD H1
  go_wp2_with fail
  go_loopw [27] (fun v27 wr => NmR w g b d l v27 wr) (fun v27 _ => l.length - (intOf v27).toNat)
  case atStart => exact ⟨0, _, _, _, rfl, by omega, HBF⟩
  case round =>
    clear HBF
    obtain ⟨j, v, vn, vg, rfl, hj, HF⟩ := hrel
    by_cases hlt : j < l.length
    · have j1 : (j : Int) < (l.length : Int) := by omega
      have j0 : (0 : Int) ≤ (j : Int) := by omega
      obtain ⟨s, hs⟩ : ∃ s, l[j]? = some s := ⟨l[j], List.getElem?_eq_getElem hlt⟩
      obtain ⟨b1, o1, rfl, hcell⟩ := HL.out.str HF.out.bl hs
      have htk : addsF (l.take (j + 1)) = addFL (addsF (l.take j)) s := by
        unfold addsF
        rw [List.take_add_one, hs]
        simp [List.foldl_append]
      have HTK := hid htk
      have HLEN : Hid ((addsF (l.take j)).length ≤ 256) := hid (by
        have := addsF_len (l.take j) []
        unfold addsF
        simp only [List.length_nil, List.length_take] at this
        omega)
      clear hs htk
      by_cases hs60 : s.length ≤ 60
      · have i3 : ¬ (60 : Int) < (s.length : Int) := by omega
        go_wp2_with fail
        refine (law17_step1 w g b v d vn vg (addsF (l.take j)) 0 0 wr HF.out HLEN.out s (by omega) 0 0 0).mono ?_
        rintro e w5 ⟨v5, vn5, vg5, rfl, hbf⟩
        rw [← HTK.out] at hbf
        have HBF5 := hid hbf
        clear hbf hcell
        go_wp2_with fail
        go_roundw
        case rel => exact ⟨j + 1, _, _, _, by go_num, by omega, HBF5⟩
        case measure => simp [intOf]; omega
      · have i3 : (60 : Int) < (s.length : Int) := by omega
        go_wp2_with fail
        refine (law17_awake wr).mono ?_
        rintro e w5 ⟨rfl, hb5⟩
        have HB5 := hid (Below.next HF.out.bl hb5)
        clear hb5
        go_wp2_with fail
        go_ret
        exact ⟨rfl, HB5.out⟩
    · have j1 : ¬ (j : Int) < (l.length : Int) := by omega
      obtain ⟨r, hr⟩ : ∃ r, fkFind (addsF (l.take j)) x = r := ⟨_, rfl⟩
      obtain ⟨ok, hok⟩ : ∃ ok, decide (0 < r) = ok := ⟨_, rfl⟩
      obtain ⟨nb, hnb⟩ : ∃ nb, nameB (⟨x.toArray⟩ : ByteArray).data.toList = nb := ⟨_, rfl⟩
      have hnn : (nb == nb) = true := by simp
      have hrr : ((r : Int) == (r : Int)) = true := by simp
      have HR := hid hr
      have HOK := hid hok
      have HNB := hid hnb
      have HLEN : Hid ((addsF (l.take j)).length ≤ 100000) := hid (by
        have := addsF_len (l.take j) []
        unfold addsF
        simp only [List.length_nil, List.length_take] at this
        omega)
      have hd : (0 < r ∧ ok = true) ∨ (¬ 0 < r ∧ ok = false) := by rw [← hok]; by_cases h : 0 < r <;> simp [h]
      clear hr hok hnb
      rcases hd with ⟨hd, rfl⟩ | ⟨hd, rfl⟩
      all_goals (
        go_wp2_with fail
        refine (folk_Find g b v _ 0 0 wr HF.out.f x r HR _ HOK).mono ?_
        rintro e w5 ⟨rfl, rfl⟩
        go_wp2_with fail
        refine (folk_Name ⟨x.toArray⟩ wr HX.out).mono ?_
        rintro e w5 ⟨rfl, hb5⟩
        rw [HNB.out]
        have HB5 := hid (Below.next HF.out.bl hb5)
        have HR5 := hid (HF.out.r.below hb5)
        clear hb5
        go_wp2_with fail
        refine (ref17_Name ⟨x.toArray⟩ w5 HX.out).mono ?_
        rintro e w6 ⟨rfl, rfl⟩
        rw [HNB.out]
        go_wp2_with fail
        refine (ref17_Find d vn vg _ 0 w5 HR5.out HLEN.out x r HR).mono ?_
        rintro e w6 ⟨rfl, rfl⟩
        go_wp2_with fail
        refine (law17_awake w5).mono ?_
        rintro e w6 ⟨rfl, hb6⟩
        have HB6 := hid (Below.next HB5.out hb6)
        clear hb6
        go_wp2_with fail
        go_ret
        exact ⟨rfl, HB6.out⟩)
set_option maxRecDepth 100000 in
set_option maxHeartbeats 2000000 in
theorem FolkNames_walk {H : Type} {enc : TypeId × Value → H} {b0 : Nat} {d0 : DataW H} {p0 : List MemPlace} (v0 : Value) (q : ByteArray) (w : World) (ok0 : Value.okWide Tryd.prog w .any b0 31 v0) (k0 : DataW.Trod enc Tryd.prog w 0 (fun _ => true) true 31 v0 d0 p0) (wq : q.size ≤ maxLen) :
    Calls Tryd.prog 4 #[v0, .string q] w fun e w' => e = .returned (.bool true) ∧ Below w.heap.size w w' := by
  obtain ⟨l, hl⟩ := open_strsF ok0 k0
  have HL := hid hl
  obtain ⟨a, c, rfl, h1, h2, -⟩ := hl
  clear ok0 k0
  obtain ⟨x, rfl⟩ : ∃ x : List UInt8, q = ⟨x.toArray⟩ := ⟨q.data.toList, rfl⟩
  unfold maxLen at wq
  have hxs : (⟨x.toArray⟩ : ByteArray).size = x.length := by show x.toArray.size = _; rw [List.size_toArray]
  rw [hxs] at wq
  by_cases hn : l.length ≤ 40
  · by_cases hx : x.length ≤ 60
    · exact law17_Names l a c x w HL.out hn hx
    · have i1 : ¬ (40 : Int) < (l.length : Int) := by omega
      have i2 : (60 : Int) < (x.length : Int) := by omega
      clear hxs hn hx
      go_enter Tryd.func4, Tryd.ntmps4
      go_wp2_with fail
      refine (law17_awake w).mono ?_
      rintro e w1 ⟨rfl, hb1⟩
      have HB := hid hb1
      clear hb1
      go_wp2_with fail
      go_ret
      exact ⟨rfl, HB.out⟩
  · have i1 : (40 : Int) < (l.length : Int) := by omega
    clear hxs hn
    go_enter Tryd.func4, Tryd.ntmps4
    go_wp2_with fail
    refine (law17_awake w).mono ?_
    rintro e w1 ⟨rfl, hb1⟩
    have HB := hid hb1
    clear hb1
    go_wp2_with fail
    go_ret
    exact ⟨rfl, HB.out⟩
end Go.Proofs.YtcjdlckfbkdibaaDoor
end
