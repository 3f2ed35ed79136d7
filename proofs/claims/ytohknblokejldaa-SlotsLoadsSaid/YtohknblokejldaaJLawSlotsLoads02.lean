/- Joined texts, in this order: VarReadMath, Mem. Each one's first remark says what it proves; no condition beyond those that its theorems name. -/
import Derived.Test.YtohknblokejldaaJLawSlotsLoads01
section
/- Plain: the reference's reading and mine. -/
namespace Go.Proofs.Ytohknblokejldaa
open Go.RowKit
open Go.Lib (hid)
set_option linter.unusedVariables false

def val : List UInt8 → Nat
  | [] => 0
  | c :: t => c.toNat % 128 + 128 * val t
theorem val_enc (u : Nat) : val (enc u) = u := by
  induction u using Nat.strongRecOn with
  | _ u ih =>
    by_cases h : u < 128
    · rw [enc_small u h]; simp [val]; omega
    · rw [enc_big u h, val, ih (u / 128) (by omega)]; simp; omega
theorem val_append (c : UInt8) : ∀ (p : List UInt8), val (p ++ [c]) = val p + c.toNat % 128 * 128 ^ p.length
  | [] => by simp [val]
  | d :: t => by
    rw [List.cons_append, val, val, val_append c t, List.length_cons, Nat.pow_succ, Nat.mul_add, ← Nat.mul_assoc (c.toNat % 128)]
    have := Nat.mul_comm 128 (c.toNat % 128 * 128 ^ t.length)
    omega
def Big (l : List UInt8) : Prop := ∀ c ∈ l, 128 ≤ c.toNat
theorem enc_shape (u : Nat) : ∃ m c, enc u = m ++ [c] ∧ Big m ∧ c.toNat < 128 := by
  induction u using Nat.strongRecOn with
  | _ u ih =>
    by_cases h : u < 128
    · exact ⟨[], UInt8.ofNat u, by rw [enc_small u h]; rfl, by simp [Big], by simp; omega⟩
    · obtain ⟨m, c, e, hm, hc⟩ := ih (u / 128) (by omega)
      refine ⟨UInt8.ofNat (u % 128 + 128) :: m, c, by rw [enc_big u h, e]; rfl, ?_, hc⟩
      intro d hd
      rcases List.mem_cons.1 hd with rfl | hd
      · simp; omega
      · exact hm d hd
theorem big_cut : ∀ (m p : List UInt8) (c d : UInt8) (r s : List UInt8), Big m → Big p → c.toNat < 128 → d.toNat < 128 → m ++ c :: r = p ++ d :: s → m = p ∧ c = d
  | [], [], c, d, r, s, _, _, _, _, h => by simp at h; exact ⟨rfl, h.1⟩
  | [], y :: p, c, d, r, s, _, hp, hc, _, h => by
    simp at h
    have := hp y (by simp)
    rw [← h.1] at this
    omega
  | x :: m, [], c, d, r, s, hm, _, _, hd, h => by
    simp at h
    have := hm x (by simp)
    rw [h.1] at this
    omega
  | x :: m, y :: p, c, d, r, s, hm, hp, hc, hd, h => by
    simp at h
    obtain ⟨e1, e2⟩ := big_cut m p c d r s (fun z hz => hm z (by simp [hz])) (fun z hz => hp z (by simp [hz])) hc hd h.2
    exact ⟨by rw [h.1, e1], e2⟩
theorem pow64 (k : Nat) (hk : k ≤ 9) : (2 : Nat) ^ 64 = 2 ^ (64 - 7 * k) * 128 ^ k := by
  rw [show (128 : Nat) = 2 ^ 7 from rfl, ← Nat.pow_mul, ← Nat.pow_add]
  congr 1; omega
theorem pow_room (k : Nat) (hk : k < 9) (u c : Nat) (hc : c < 128) (h : u * 128 ^ (k + 1) < 18446744073709551616) : (c + 128 * u) * 128 ^ k < 18446744073709551616 := by
  have e := pow64 (k + 1) (by omega)
  have e2 : (2 : Nat) ^ 64 = 18446744073709551616 := by rfl
  rw [← e2] at h ⊢
  rw [e] at h ⊢
  generalize 2 ^ (64 - 7 * (k + 1)) = Q at h ⊢
  have hu := Nat.lt_of_mul_lt_mul_right h
  rw [Nat.pow_succ, Nat.mul_comm (128 ^ k), ← Nat.mul_assoc]
  exact Nat.mul_lt_mul_of_pos_right (by omega) (Nat.pow_pos (by omega))
theorem pow_room1 (k : Nat) (hk : k < 10) (c : Nat) (hc : c < 128) (h : k = 9 → c ≤ 1) : c * 128 ^ k < 18446744073709551616 := by
  by_cases h9 : k = 9
  · subst h9
    have h1 := h rfl
    have : (128 : Nat) ^ 9 = 9223372036854775808 := by rfl
    rw [this]; omega
  · have e := pow64 (k + 1) (by omega)
    have e2 : (2 : Nat) ^ 64 = 18446744073709551616 := by rfl
    rw [← e2, e, Nat.pow_succ, Nat.mul_comm (128 ^ k), ← Nat.mul_assoc]
    have : 0 < 2 ^ (64 - 7 * (k + 1)) := Nat.pow_pos (by omega)
    exact Nat.mul_lt_mul_of_pos_right (by omega) (Nat.pow_pos (by omega))
set_option maxRecDepth 100000 in
theorem readF_sound : ∀ (l : List UInt8) (k a : Nat), k ≤ 10 → (readF l k a).1 ≠ 0 → ∃ u r, l = enc u ++ r ∧ (readF l k a).1 = k + (enc u).length ∧ (readF l k a).2 = a + u * 128 ^ k ∧ u * 128 ^ k < 18446744073709551616 ∧ (0 < k → 0 < u)
  | [], k, a, _, h => by simp [readF] at h
  | c :: t, k, a, hk, h => by
    rw [readF] at h ⊢
    by_cases h10 : k = 10
    · rw [if_pos h10] at h; exact absurd rfl h
    rw [if_neg h10] at h ⊢
    by_cases h9 : k = 9 ∧ 1 < c.toNat % 128
    · rw [if_pos h9] at h; exact absurd rfl h
    rw [if_neg h9] at h ⊢
    by_cases hc : c.toNat < 128
    · rw [if_pos hc] at h ⊢
      by_cases h0 : 0 < k ∧ c.toNat = 0
      · rw [if_pos h0] at h; exact absurd rfl h
      rw [if_neg h0]
      refine ⟨c.toNat, t, ?_, ?_, ?_, pow_room1 k (by omega) _ hc (fun e => by omega), by omega⟩
      · rw [enc_small _ hc]; simp
      · rw [enc_small _ hc]; simp
      · simp only; rw [show c.toNat % 128 = c.toNat by omega]
    · rw [if_neg hc] at h ⊢
      obtain ⟨u, r, e1, e2, e3, e4, e5⟩ := readF_sound t (k + 1) (a + c.toNat % 128 * 128 ^ k) (by omega) h
      have hu := e5 (by omega)
      have hk9 : k < 9 := by
        rcases Nat.lt_or_ge k 9 with x | x
        · exact x
        · obtain rfl : k = 9 := by omega
          exfalso
          cases t with
          | nil => simp [readF] at h
          | cons d t => simp [readF] at h
      have hlt : c.toNat < 256 := c.toNat_lt
      have hb : ¬ c.toNat % 128 + 128 * u < 128 := by omega
      refine ⟨c.toNat % 128 + 128 * u, r, ?_, ?_, ?_, pow_room k hk9 u _ (by omega) e4, by omega⟩
      · rw [enc_big _ hb, show (c.toNat % 128 + 128 * u) / 128 = u by omega, show (c.toNat % 128 + 128 * u) % 128 + 128 = c.toNat by omega, e1]
        simp
      · rw [enc_big _ hb, show (c.toNat % 128 + 128 * u) / 128 = u by omega, e2]
        simp; omega
      · rw [e3, Nat.pow_succ, Nat.add_mul, Nat.mul_comm 128 u, Nat.mul_assoc, Nat.mul_comm 128 (128 ^ k), Nat.add_assoc]

/-- what the reference reads -/
def refRead (l : List UInt8) : Int × Nat := if (readF l 0 0).1 = 0 then (0, 0) else (unzz (readF l 0 0).2, (readF l 0 0).1)
set_option maxRecDepth 100000 in
theorem refRead_none (l : List UInt8) (h : Big (l.take 10)) : refRead l = (0, 0) := by
  unfold refRead
  by_cases h0 : (readF l 0 0).1 = 0
  · rw [if_pos h0]
  · exfalso
    obtain ⟨u, r, e1, e2, e3, e4, e5⟩ := readF_sound l 0 0 (by omega) h0
    have hu : u < 18446744073709551616 := by simpa using e4
    have hl := enc_len10 u hu
    obtain ⟨m, c, e, hm, hc⟩ := enc_shape u
    have : c ∈ l.take 10 := by
      rw [e1, e, List.append_assoc]
      rw [e] at hl
      simp at hl
      rw [List.take_append]
      obtain ⟨j, hj⟩ : ∃ j, 10 - m.length = j + 1 := ⟨10 - m.length - 1, by omega⟩
      rw [hj]
      simp
    have := h c this
    omega
set_option maxRecDepth 100000 in
theorem refRead_yes (l p r : List UInt8) (x : Nat) (hx : x < 18446744073709551616) (hl : l = p ++ r) (he : enc x = p) : refRead l = (unzz x, p.length) := by
  have := readF_enc x r 0 0 (by omega) (by simpa using hx) (by omega)
  have hp := enc_pos x
  rw [he, ← hl] at this
  rw [he] at hp
  unfold refRead
  rw [this]
  simp
  intro h0
  simp [h0] at hp
set_option maxRecDepth 100000 in
theorem refRead_no (l p r : List UInt8) (c : UInt8) (hl : l = p ++ c :: r) (hp : Big p) (hc : c.toNat < 128) (he : enc (val (p ++ [c]) % 18446744073709551616) ≠ p ++ [c]) : refRead l = (0, 0) := by
  unfold refRead
  by_cases h0 : (readF l 0 0).1 = 0
  · rw [if_pos h0]
  · exfalso
    obtain ⟨u, r', e1, e2, e3, e4, e5⟩ := readF_sound l 0 0 (by omega) h0
    have hu : u < 18446744073709551616 := by simpa using e4
    obtain ⟨m, d, e, hm, hd⟩ := enc_shape u
    have hcut := big_cut m p d c r' r hm hp hd hc (by rw [← hl, e1, e]; simp)
    obtain ⟨rfl, rfl⟩ := hcut
    apply he
    rw [← e, val_enc, Nat.mod_eq_of_lt hu, e]
end Go.Proofs.Ytohknblokejldaa
end
section
/- Worlds in which only some blocks may have turned. No program in sight. -/
namespace Go.Proofs.Ytohknblokejldaa
open Go.RowKit
open Go.Lib (hid)
set_option linter.unusedVariables false

/-- of what was there, only blocks of S may have turned -/
structure Upd (S : Nat → Prop) (w w' : World) : Prop where
  os : w'.os = w.os
  tape : w'.tape = w.tape
  output : w'.output = w.output
  size : w.heap.size ≤ w'.heap.size
  block : ∀ k, k < w.heap.size → ¬ S k → w'.heap[k]? = w.heap[k]?

theorem Upd.refl (S : Nat → Prop) (w : World) : Upd S w w := ⟨rfl, rfl, rfl, Nat.le_refl _, fun _ _ _ => rfl⟩
theorem Upd.trans {S T : Nat → Prop} {a b c : World} (h : Upd S a b) (k : Upd T b c) (hs : ∀ i, i < a.heap.size → T i → S i) : Upd S a c :=
  ⟨k.os.trans h.os, k.tape.trans h.tape, k.output.trans h.output, Nat.le_trans h.size k.size, fun i hi hn => (k.block i (Nat.lt_of_lt_of_le hi h.size) (fun ht => hn (hs i hi ht))).trans (h.block i hi hn)⟩
theorem Upd.mono {S T : Nat → Prop} {a b : World} (h : Upd S a b) (hs : ∀ i, i < a.heap.size → S i → T i) : Upd T a b :=
  ⟨h.os, h.tape, h.output, h.size, fun i hi hn => h.block i hi (fun x => hn (hs i hi x))⟩
theorem Upd.of_below {S : Nat → Prop} {w w' : World} (h : Below w.heap.size w w') : Upd S w w' := ⟨h.os, h.tape, h.output, h.size, fun k hk _ => h.block k hk⟩
theorem Upd.of_grown {w w' : World} {row : Option Nat} (h : w.grownBy w' row) : Upd (fun k => row = some k) w w' := ⟨h.os, h.tape, h.output, h.size, fun k hk hn => h.block k hk (fun e => hn e.symm)⟩
theorem Upd.below {S : Nat → Prop} {w w' : World} (h : Upd S w w') {B : Nat} (hB : B ≤ w.heap.size) (hs : ∀ k, k < w.heap.size → S k → B ≤ k) : Below B w w' :=
  ⟨h.os, h.tape, h.output, h.size, fun k hk => h.block k (by omega) (fun x => by have := hs k (by omega) x; omega)⟩
theorem Upd.cell {S : Nat → Prop} {w w' : World} (h : Upd S w w') {p : Addr} {v : Value} (hc : w.cell? p = some v) (hn : ¬ S p.block) : w'.cell? p = some v := by
  rw [← hc]; exact World.cell?_of_block (h.block _ (World.block_lt_of_cell? w _ hc) hn)
theorem Upd.heap {S : Nat → Prop} {w w' : World} (h : Upd S w w') {k : Nat} {o : Obj} (hc : w.heap[k]? = some o) (hn : ¬ S k) : w'.heap[k]? = some o := by
  rw [h.block k (Array.getElem?_eq_some_iff.1 hc).1 hn]; exact hc
theorem Upd.owns {S : Nat → Prop} {w w' : World} (h : Upd S w w') {base : Nat} {e : TypeId} {v : Value} {n : Nat} {xs : List Value} {size : Nat} (ho : w.ownsRow base e size v n xs) (hn : ∀ k, v.ownBlock = some k → ¬ S k) : w'.ownsRow base e size v n xs := by
  refine ⟨ho.1, ?_⟩
  rcases ho.2 with hv | ⟨g, cap, cur, rfl, hb, hg, r⟩
  · exact .inl hv
  · exact .inr ⟨g, cap, cur, rfl, hb, h.heap hg (hn g rfl), r⟩
theorem Upd.rd {S : Nat → Prop} {w w' : World} (h : Upd S w w') {a : Option Addr} {xs : List Value} (hr : Rd w a xs) (hn : ∀ b off, a = some ⟨b, off, none⟩ → ¬ S b) : Rd w' a xs :=
  hr.congr fun b off ha hlt => h.block b hlt (hn b off ha)
theorem Upd.slb {S : Nat → Prop} {w w' : World} (h : Upd S w w') {a : Option Addr} {n c : Nat} {l : List UInt8} (hl : SlB w (.slice a n c) l) (hn : ∀ b off, a = some ⟨b, off, none⟩ → ¬ S b) : SlB w' (.slice a n c) l := by
  obtain ⟨a', c', e, h1, h2, h3⟩ := hl
  simp only [Value.slice.injEq] at e
  obtain ⟨rfl, rfl, rfl⟩ := e
  exact ⟨a, c, rfl, h1, h.rd h2 hn, h3⟩

/-- a block of cells that may be written -/
def Blk (w : World) (g : Nat) (cs : Array Value) : Prop := ∃ e, w.heap[g]? = some (.cells cs e (0, 0))
theorem Blk.lt {w : World} {g : Nat} {cs : Array Value} (h : Blk w g cs) : g < w.heap.size := by obtain ⟨e, h⟩ := h; exact (Array.getElem?_eq_some_iff.1 h).1
theorem Blk.cell {w : World} {g : Nat} {cs : Array Value} (h : Blk w g cs) (i : Nat) : w.cell? ⟨g, i, none⟩ = cs[i]? := by
  obtain ⟨e, h⟩ := h; simp [World.cell?, h]
theorem Blk.unfrozen {w : World} {g : Nat} {cs : Array Value} (h : Blk w g cs) (i : Nat) : w.frozen? ⟨g, i, none⟩ = false := by
  obtain ⟨e, h⟩ := h; simp [World.frozen?, h]
theorem Blk.upd {S : Nat → Prop} {w w' : World} (h : Upd S w w') {g : Nat} {cs : Array Value} (hb : Blk w g cs) (hn : ¬ S g) : Blk w' g cs := by
  obtain ⟨e, hb⟩ := hb; exact ⟨e, h.heap hb hn⟩
theorem Blk.below {w w' : World} (h : Below w.heap.size w w') {g : Nat} {cs : Array Value} (hb : Blk w g cs) : Blk w' g cs :=
  hb.upd (S := fun _ => False) (Upd.of_below h) (fun x => x)
theorem Blk.new (w : World) (cs : Array Value) (e : TypeId) : Blk (w.alloc (.cells cs e)) w.heap.size cs := ⟨e, heap_alloc_new w _⟩
theorem Blk.set {w : World} {g : Nat} {cs : Array Value} (h : Blk w g cs) (i : Nat) (u : Value) : Blk (w.setCell ⟨g, i, none⟩ u) g (cs.setIfInBounds i u) := by
  obtain ⟨e, h⟩ := h; exact ⟨e, heap_setCell_same w g i cs e u h⟩
theorem Upd.setCell (w : World) (g i : Nat) (u : Value) : Upd (fun k => k = g) w (w.setCell ⟨g, i, none⟩ u) :=
  ⟨rfl, rfl, rfl, by simp, fun k _ hk => heap_setCell_other w ⟨g, i, none⟩ k u (fun e => hk e)⟩
theorem ownBlock_lt {w : World} {base : Nat} {e : TypeId} {v : Value} {n : Nat} {xs : List Value} {size : Nat} (h : w.ownsRow base e size v n xs) {k : Nat} (hk : v.ownBlock = some k) : k < w.heap.size := (h.lt k hk).2

/-- where an append leaves its value: in the block that it was in, or in a new one -/
theorem run_append_where {P : Program} (w : World) {t ty e : TypeId} {z : Value} {size bytes : Nat} (T : SlT P t e z size bytes)
    {base : Nat} {v : Value} {n : Nat} {xs : List Value} (hown : w.ownsRow base e size v n xs) {ad : Addr} {m c : Nat} {news : List Value} (hl : news.length = m * size) (hnews : ∀ j u, news[j]? = some u → w.cell? (ad.add j) = some u) (h1 : ∀ u ∈ news, u.oneCell' = true)
    (hbytes : (n + m) * bytes ≤ 140737488355328) {v' : Value} {w' : World} (hr : (Builtin.append_ #[t, t] ty #[v, .slice (some ad) m c]).run P w = .ok v' w') : ∀ k, v'.ownBlock = some k → v.ownBlock = some k ∨ w.heap.size ≤ k := by
  obtain ⟨i, hi, hz, hsz, hby⟩ := T.info
  have hmax : (n + m) * 1 ≤ (n + m) * bytes := Nat.mul_le_mul_left _ T.bpos
  have hm2 : m * 1 ≤ m * bytes := Nat.mul_le_mul_left _ T.bpos
  have hmb : m * bytes ≤ (n + m) * bytes := Nat.mul_le_mul_right _ (by omega)
  intro k hk
  rcases hown.2 with ⟨rfl, rfl⟩ | ⟨g, cap, cur, rfl, hbg, hg, hnc, hcm, hcs, htake⟩
  · by_cases h0 : m = 0
    · subst h0
      obtain ⟨v1, w1, h, -, -, hnil⟩ := run_append_own (P := P) w 0 t ty e i z size bytes T.u hi hz hsz hby T.zs T.pos _ 0 xs (ownsRow_base hown (Nat.zero_le _)) ad 0 c news hl hnews h1 (by unfold maxLen; omega) (by omega) (Nat.zero_le _)
      rw [h] at hr
      simp only [Result.ok.injEq] at hr
      obtain ⟨rfl, rfl⟩ := hr
      rw [hnil.2 ⟨rfl, rfl⟩] at hk
      simp [Value.ownBlock] at hk
    · have h := run_append_nil (P := P) w t ty e i z T.u hi hz ad m c news (by rw [hsz]; exact hl) hnews (by omega) (by omega) (by rw [hby]; omega)
      rw [h] at hr
      simp only [Result.ok.injEq] at hr
      obtain ⟨rfl, rfl⟩ := hr
      simp only [Value.ownBlock, Option.some.injEq] at hk
      exact .inr (by omega)
  · by_cases hroom : n + m ≤ cap
    · have hfit : n * i.size + news.length ≤ cur.size := by rw [hl, hcs, hsz, ← Nat.add_mul]; exact Nat.mul_le_mul_right _ hroom
      have h := run_append_room (P := P) w t ty e i T.u hi g n cap cur hg ad m c news (by rw [hsz]; exact hl) hnews h1 hroom hfit
      rw [h] at hr
      simp only [Result.ok.injEq] at hr
      obtain ⟨rfl, rfl⟩ := hr
      exact .inl hk
    · have holds : ∀ j u, xs[j]? = some u → w.cell? ((⟨g, 0, none⟩ : Addr).add j) = some u := hown.cells (g := g) rfl
      have h := run_append_grow (P := P) w t ty e i z T.u hi hz ⟨g, 0, none⟩ n cap xs (by rw [hsz]; exact hown.1) holds ad m c news (by rw [hsz]; exact hl) hnews (by omega) (by omega) (by rw [hby]; exact growslice_fits (by omega) hbytes)
      rw [h] at hr
      simp only [Result.ok.injEq] at hr
      obtain ⟨rfl, rfl⟩ := hr
      simp only [Value.ownBlock, Option.some.injEq] at hk
      exact .inr (by omega)

/-- append(s, x), one element more; it is told where the value lies -/
theorem wpList_append1w {P : Program} {t e : TypeId} {z : Value} {size bytes : Nat} (T : SlT P t e z size bytes) (w : World) {ops : Array Oper} {rest : List Oper} {o : Oper} {a : Act} {Q : Exit → Act → World → Prop}
    (hgd : o.guard = none) (s x : Operand) (us : Array Value) (ho : o.op = .call { callee := .builtin .append, args := #[s, x], argTypes := #[t, t] })
    (base : Nat) (v : Value) (n : Nat) (xs : List Value) (hs : a.eval s = v) (hown : w.ownsRow base e size v n xs)
    (hx : a.eval x = .slice (some ⟨w.heap.size, 0, none⟩) 1 1) (hl : us.size = size) (h1 : ∀ u ∈ us.toList, u.oneCell' = true)
    (hbytes : (n + 1) * bytes ≤ 140737488355328) (hbase : base ≤ w.heap.size)
    (h : ∀ v' w', w'.ownsRow base e size v' (n + 1) (xs ++ us.toList) → w.grownBy w' v.ownBlock → v' ≠ .slice none 0 0 → (∀ k, v'.ownBlock = some k → v.ownBlock = some k ∨ w.heap.size ≤ k) → wpList P ops Q rest (a.put o.dst v') w') : wpList P ops Q (o :: rest) a (w.alloc (.cells us e)) := by
  obtain ⟨i, hi, hz, hsz, hby⟩ := T.info
  have h63 : n + 1 ≤ maxLen := by
    have : (n + 1) * 1 ≤ (n + 1) * bytes := Nat.mul_le_mul_left _ T.bpos
    unfold maxLen; omega
  have hnews : ∀ j u, us.toList[j]? = some u → (w.alloc (.cells us e)).cell? ((⟨w.heap.size, 0, none⟩ : Addr).add j) = some u := by
    intro j u hu
    rw [Addr.add_lit, Nat.zero_add, World.cell?_alloc_new]
    simpa using hu
  obtain ⟨v', w', hr, h2, h3, h4⟩ := run_append_own (P := P) (w.alloc (.cells us e)) base t o.type e i z size bytes T.u hi hz hsz hby T.zs T.pos v n xs (hown.alloc _) ⟨w.heap.size, 0, none⟩ 1 1 us.toList (by simpa using hl) hnews h1 h63 hbytes (by simp; omega)
  have hwh := run_append_where (P := P) (w.alloc (.cells us e)) T (hown.alloc _) (by simpa using hl) hnews h1 hbytes hr
  have hg : w.grownBy w' v.ownBlock := ⟨h3.os, h3.tape, h3.output, by have := h3.size; simp at this; omega, fun k hk hne => (h3.block k (by simp; omega) hne).trans (Below.heap_alloc w _ k hk)⟩
  refine wpList_plain hgd fun K hK => ?_
  unfold Oper.wp execOp
  simp only [ho, resolve, invoke, builtin, Sem.run_bind, Sem.run_pure, Result.andThen_ok, List.map_toArray, List.map_cons, List.map_nil, hs, hx, hr]
  exact hK _ _ (h v' w' h2 hg (fun e => by simp [h4] at e) (fun k hk => by rcases hwh k hk with x | x; exact .inl x; exact .inr (by simp at x; omega)))

/-- append(s, x...); it is told where the value lies -/
theorem wpList_appendNw {P : Program} {t e : TypeId} {z : Value} {size bytes : Nat} (T : SlT P t e z size bytes) (w : World) {ops : Array Oper} {rest : List Oper} {o : Oper} {a : Act} {Q : Exit → Act → World → Prop}
    (hgd : o.guard = none) (s x : Operand) (ho : o.op = .call { callee := .builtin .append, args := #[s, x], argTypes := #[t, t] })
    (base : Nat) (v : Value) (n : Nat) (xs : List Value) (hs : a.eval s = v) (hown : w.ownsRow base e size v n xs)
    (ao : Option Addr) (m c : Nat) (news : List Value) (hx : a.eval x = .slice ao m c) (hl : news.length = m * size) (hc0 : m = 0 → ao = none → c = 0) (hrd : Rd w ao news) (h1 : ∀ u ∈ news, u.oneCell' = true)
    (hbytes : (n + m) * bytes ≤ 140737488355328) (hbase : base ≤ w.heap.size)
    (h : ∀ v' w', w'.ownsRow base e size v' (n + m) (xs ++ news) → w.grownBy w' v.ownBlock → (v' = .slice none 0 0 ↔ v = .slice none 0 0 ∧ m = 0) → (∀ k, v'.ownBlock = some k → v.ownBlock = some k ∨ w.heap.size ≤ k) → wpList P ops Q rest (a.put o.dst v') w') : wpList P ops Q (o :: rest) a w := by
  obtain ⟨i, hi, hz, hsz, hby⟩ := T.info
  have h63 : n + m ≤ maxLen := by
    have : (n + m) * 1 ≤ (n + m) * bytes := Nat.mul_le_mul_left _ T.bpos
    unfold maxLen; omega
  cases ao with
  | some ad =>
    have hnews : ∀ j u, news[j]? = some u → w.cell? (ad.add j) = some u := by
      intro j u hu
      obtain ⟨b, off, had, hc⟩ := hrd j (by have := (List.getElem?_eq_some_iff.1 hu).1; exact this)
      obtain rfl := Option.some.inj had
      rw [Addr.add_lit, hc, hu]
    obtain ⟨v', w', hr, h2, h3, h4⟩ := run_append_own (P := P) w base t o.type e i z size bytes T.u hi hz hsz hby T.zs T.pos v n xs hown ad m c news hl hnews h1 h63 hbytes hbase
    have hwh := run_append_where (P := P) w T hown hl hnews h1 hbytes hr
    refine wpList_plain hgd fun K hK => ?_
    unfold Oper.wp execOp
    simp only [ho, resolve, invoke, builtin, Sem.run_bind, Sem.run_pure, Result.andThen_ok, List.map_toArray, List.map_cons, List.map_nil, hs, hx, hr]
    exact hK _ _ (h v' w' h2 h3 h4 hwh)
  | none =>
    have hn : news = [] := by
      cases news with
      | nil => rfl
      | cons y ys => obtain ⟨b, off, had, _⟩ := hrd 0 (by simp); cases had
    subst hn
    have hm0 : m = 0 := by
      have := T.pos
      simp only [List.length_nil] at hl
      rcases Nat.eq_zero_or_pos m with h | h
      · exact h
      · have := Nat.mul_pos h T.pos; omega
    subst hm0
    obtain rfl := hc0 rfl rfl
    refine wpList_plain hgd fun K hK' => ?_
    have hrun := run_append_owned_none (P := P) w base t o.type e i size T.u hi v n xs hown
    unfold Oper.wp
    simp [execOp, ho, resolve, invoke, builtin, hs, hx, hrun, Result.andThen]
    exact hK' _ _ (h v w (by simpa using hown) (World.grownBy.refl _ _) (by simp) (fun k hk => .inl hk))
end Go.Proofs.Ytohknblokejldaa
end
