/- A part of a proof: see the text's own remark. No conditions beyond its theorems' own. -/
import Derived.Test.YtdleoljbnjjdgaaQCFieldCauchysx
import Derived.Test.YtdleoljbnjjdgaaCopy
import Derived.WalkKit
/-! headers of rows, rows of bytes: what they are, and what moves them (turned by number from the texts of seat s05) -/
namespace Go.Proofs.Ytdleoljbnjjdgaa.Bok
open Go.RowKit Go.Proofs.Ytdleoljbnjjdgaa.QCFieldCauchys Go.Proofs.YtdleoljbnjjdgaaW.PrintWords Go.Proofs.YtdleoljbnjjdgaaW.PrintLast Go.Proofs.YtdleoljbnjjdgaaW.PrintMore
set_option linter.unusedVariables false
set_option linter.unusedSimpArgs false
theorem add_off (b o n : Nat) : (⟨b, o, none⟩ : Addr).add n = ⟨b, o + n, none⟩ := by
  unfold Addr.add
  split
  · rename_i h; subst h; rfl
  · rfl
abbrev Hdr := Option Addr × Nat × Nat
def hdV (h : Hdr) : Value := .slice h.1 h.2.1 h.2.2
theorem own_of_R {k : IntKind} {e base : Nat} {w : World} {ok : Nat → Prop} {v : Value} {xs : List Int} (h : Kd.R (Kd.int k) e w base ok v xs) : w.ownsRow base e 1 v xs.length (nums k xs) := by
  obtain ⟨_, inner, ho, hr⟩ := h
  rw [CopyR.nums_of hr] at ho
  exact ho
theorem R_of_own {k : IntKind} {e base : Nat} {w : World} {v : Value} {xs : List Int} (h : w.ownsRow base e 1 v xs.length (nums k xs)) : Kd.R (Kd.int k) e w base (fun _ => True) v xs := ⟨fun _ _ => trivial, nums k xs, h, CopyR.reps_nums xs⟩
theorem meas {n i : Nat} {x : Int} (h : x = ((i + 1 : Nat) : Int)) (hl : i < n) : n - (intOf (.int .i64 x)).toNat < n - (intOf (.int .i64 (i : Int))).toNat := by subst h; simp only [intOf, Int.toNat_natCast]; omega
theorem wr1 {i n : Nat} (h : i < n) (hn : n ≤ 140737488355328) : wrap64 ((i : Int) + 1) = ((i + 1 : Nat) : Int) := by unfold wrap64; omega
theorem take_one {α : Type} (l : List α) {i : Nat} (hi : i < l.length) : l.take (i + 1) = l.take i ++ [l[i]] := List.take_succ_eq_append_getElem hi
theorem rd_nat (l : List Int) (i : Nat) : rd l (i : Int) = l.getD i 0 := by unfold rd; rw [Int.toNat_natCast]
theorem rdL_nat (l : List (List Int)) (i : Nat) : rd_L1 l (i : Int) = l.getD i [] := by unfold rd_L1; rw [Int.toNat_natCast]
theorem getD_mem {α : Type} {l : List α} {d : α} {t : Nat} (h : t < l.length) : l.getD t d ∈ l := by
  rw [List.getD_eq_getElem?_getD, List.getElem?_eq_getElem h]; exact List.getElem_mem h
theorem getD_get {α : Type} {l : List α} {d : α} {t : Nat} (h : t < l.length) : l[t]? = some (l.getD t d) := by
  rw [List.getD_eq_getElem?_getD, List.getElem?_eq_getElem h]; rfl
def bytesV (l : List Int) : Array Value := (l.map (Value.int .u8)).toArray
theorem bytesV_set (l : List Int) (i : Nat) (v : Int) : (bytesV l).setIfInBounds i (.int .u8 v) = bytesV (l.set i v) := by
  unfold bytesV; rw [List.setIfInBounds_toArray, List.map_set]
theorem bytesV_get (l : List Int) (i : Nat) : (bytesV l)[i]? = l[i]?.map (Value.int .u8) := by simp [bytesV]
def Row5 (w : World) (h : Hdr) (r : List Int) : Prop := h.2.1 = r.length ∧ r.length ≤ h.2.2 ∧ r.length ≤ 281474976710656 ∧ (0 < r.length → ∃ k o cells fz, h.1 = some ⟨k, o, none⟩ ∧ w.heap[k]? = some (.cells cells 5 fz) ∧ ∀ (x : Nat) y, r[x]? = some y → cells[o + x]? = some (.int .u8 y))
def Same5 (w w' : World) : Prop := ∀ (k : Nat) cells fz, w.heap[k]? = some (.cells cells 5 fz) → w'.heap[k]? = some (.cells cells 5 fz)
theorem Same5.refl (w : World) : Same5 w w := fun _ _ _ h => h
theorem Same5.trans {a b c : World} (h : Same5 a b) (h' : Same5 b c) : Same5 a c := fun k cells fz hk => h' k cells fz (h k cells fz hk)
theorem Same5.of_below {w w' : World} (h : Below w.heap.size w w') : Same5 w w' := fun k cells fz hk => (h.block k (Array.getElem?_eq_some_iff.1 hk).1).trans hk
theorem Same5.of_grown {w w' : World} {row : Option Nat} (h : w.grownBy w' row) (hr : ∀ k cells fz, w.heap[k]? = some (.cells cells 5 fz) → some k ≠ row) : Same5 w w' := fun k cells fz hk => (h.block k (Array.getElem?_eq_some_iff.1 hk).1 (hr k cells fz hk)).trans hk
theorem Same5.set {w : World} {g t : Nat} {cells : Array Value} {fz : Nat × Nat} (hg : w.heap[g]? = some (.cells cells t fz)) (ht : t ≠ 5) (i : Nat) (v : Value) : Same5 w (w.setCell ⟨g, i, none⟩ v) := fun k c f hk => by
  rw [Below.heap_setCell w ⟨g, i, none⟩ v k (fun e => ht (by
    have e2 : k = g := e
    rw [e2, hg] at hk; injection hk with hk; injection hk))]
  exact hk
theorem Row5.move {w w' : World} {h : Hdr} {r : List Int} (hr : Row5 w h r) (hs : Same5 w w') : Row5 w' h r := by
  obtain ⟨a, b, c, d⟩ := hr
  refine ⟨a, b, c, fun hp => ?_⟩
  obtain ⟨k, o, cells, fz, e1, e2, e3⟩ := d hp
  exact ⟨k, o, cells, fz, e1, hs k cells fz e2, e3⟩
theorem Row5.toC {w : World} {A : Option Addr} {n c : Nat} {r : List Int} (hr : Row5 w (A, n, c) r) : Kd.C (Kd.int .u8) w A r.length r := by
  obtain ⟨a, b, c, d⟩ := hr
  refine ⟨rfl, by omega, fun hp => ?_⟩
  obtain ⟨k, o, cells, fz, e1, e2, e3⟩ := d hp
  refine ⟨_, e1, fun j p hj => ⟨[.int .u8 p], rfl, rfl, fun t u hu => ?_⟩⟩
  match t, hu with
  | 0, hu =>
    obtain rfl := Option.some.inj hu
    rw [show (⟨k, o, none⟩ : Addr).add (j * (Kd.int .u8).sz + 0) = ⟨k, o + (j * 1 + 0), none⟩ from add_off k o _, show o + (j * 1 + 0) = o + j by omega, cell_of_row w k (o + j) cells 5 fz e2]
    exact e3 j p hj
  | t + 1, hu => simp at hu
structure Rows5 (w : World) (hs : List Hdr) (m : List (List Int)) : Prop where
  len : hs.length = m.length
  row : ∀ (i : Nat) (h : Hdr) (r : List Int), hs[i]? = some h → m[i]? = some r → Row5 w h r
theorem Rows5.nil (w : World) : Rows5 w [] [] := ⟨rfl, fun i h r hi => by simp at hi⟩
theorem Rows5.move {w w' : World} {hs : List Hdr} {m : List (List Int)} (h : Rows5 w hs m) (hs5 : Same5 w w') : Rows5 w' hs m := ⟨h.len, fun i hd r h1 h2 => (h.row i hd r h1 h2).move hs5⟩
theorem Rows5.snoc {w : World} {hs : List Hdr} {m : List (List Int)} (h : Rows5 w hs m) {hd : Hdr} {r : List Int} (hr : Row5 w hd r) : Rows5 w (hs ++ [hd]) (m ++ [r]) := by
  refine ⟨by rw [List.length_append, List.length_append, h.len]; rfl, fun i hd' r' a b => ?_⟩
  by_cases hi : i < hs.length
  · rw [List.getElem?_append_left hi] at a
    rw [List.getElem?_append_left (by rw [← h.len]; exact hi)] at b
    exact h.row i hd' r' a b
  · rw [List.getElem?_append_right (by omega)] at a
    rw [List.getElem?_append_right (by rw [← h.len]; omega), ← h.len] at b
    have : i - hs.length = 0 := by
      have := (List.getElem?_eq_some_iff.1 a).1
      simp at this; omega
    rw [this] at a b
    simp only [List.getElem?_cons_zero, Option.some.injEq] at a b
    subst a; subst b
    exact hr
theorem Rows5.at_ {w : World} {hs : List Hdr} {m : List (List Int)} (h : Rows5 w hs m) {i : Nat} (hi : i < m.length) : ∃ A c, hs[i]? = some (A, (m.getD i []).length, c) ∧ (m.getD i []).length ≤ c ∧ Kd.C (Kd.int .u8) w A (m.getD i []).length (m.getD i []) := by
  have h1 := List.getElem?_eq_getElem (show i < hs.length by rw [h.len]; exact hi)
  obtain ⟨hd, hhd⟩ : ∃ hd, hs[i]? = some hd := ⟨_, h1⟩
  have h2 := h.row i hd _ hhd (getD_get (d := []) hi)
  clear h1
  obtain ⟨A, n, c⟩ := hd
  have h2c := h2
  obtain ⟨e1, e2, _⟩ := h2
  have e1' : n = (m.getD i []).length := e1
  subst e1'
  exact ⟨A, c, hhd, e2, h2c.toC⟩
theorem Rows5.toC {w : World} {base : Nat} {hs : List Hdr} {m : List (List Int)} {A : Option Addr} {n c : Nat} (h : Rows5 w hs m) (ho : w.ownsRow base 29 1 (.slice A n c) hs.length (encs hdV hs)) : Kd.C (Kd.slice 5 (Kd.int .u8)) w A n m := by
  have hl := h.len
  obtain ⟨hlen, hcase⟩ := ho
  rcases hcase with ⟨hv, hx0⟩ | ⟨g, cap, cur, hv, hg, hh, hnc, hcm, hcs, htake⟩
  · injection hv with _ hn _
    subst hn
    obtain rfl : m = [] := List.eq_nil_of_length_eq_zero (by omega)
    exact ⟨rfl, by decide, fun hp => absurd hp (by decide)⟩
  · injection hv with hA hn hc
    subst hA; subst hn; subst hc
    refine ⟨by omega, by unfold maxLen at hcm; omega, fun hp => ⟨_, rfl, fun j p hj => ?_⟩⟩
    have hjl := (List.getElem?_eq_some_iff.1 hj).1
    obtain ⟨A, c2, e1, e2, e3⟩ := h.at_ hjl
    have ep : p = m.getD j [] := by rw [List.getD_eq_getElem?_getD, hj]; rfl
    refine ⟨[.slice A (m.getD j []).length c2], rfl, ⟨A, c2, by rw [ep], by rw [ep]; exact e2, by rw [ep]; exact e3⟩, fun t u hu => ?_⟩
    match t, hu with
    | 0, hu =>
      obtain rfl := Option.some.inj hu
      rw [show (⟨g, 0, none⟩ : Addr).add (j * (Kd.slice 5 (Kd.int .u8)).sz + 0) = ⟨g, j, none⟩ from (add_off g 0 _).trans (by rw [Nat.zero_add]; exact congrArg (fun z => (⟨g, z, none⟩ : Addr)) (Nat.mul_one j))]
      rw [blk_cell hh, ← Array.getElem?_toList]
      have : (cur.toList.take (hs.length * 1))[j]? = (encs hdV hs)[j]? := by rw [htake]
      rw [List.getElem?_take, if_pos (by omega)] at this
      rw [this]
      unfold encs
      rw [List.getElem?_map, e1]; rfl
    | t + 1, hu => simp at hu
theorem ne5 {w : World} {base n k : Nat} {v : Value} {xs : List Value} {t : Nat} {cells : Array Value} {fz : Nat × Nat} (ht : t ≠ 5) (h : w.ownsRow base t 1 v n xs) (hc : w.heap[k]? = some (.cells cells 5 fz)) : some k ≠ v.ownBlock := by
  intro e
  obtain ⟨c2, h2⟩ := own_typed h k e.symm
  rw [hc] at h2
  injection h2 with h2
  injection h2 with _ h2
  exact ht h2.symm
attribute [local go_sem] max2_int min2_int max_two min_two max_three min_three max_four min_four
theorem own_below5 {W W' : World} {B e size n : Nat} {v : Value} {xs : List Value} (h : W.ownsRow B e size v n xs) (hb : Below W.heap.size W W') : W'.ownsRow B e size v n xs :=
  h.kept (row := none) ⟨hb.os, hb.tape, hb.output, hb.size, fun k hk _ => hb.block k hk⟩ (Classical.em _)
theorem cell_below5 {w w' : World} {a : Addr} {v : Value} (hb : Below w.heap.size w w') (hc : w.cell? a = some v) : w'.cell? a = some v :=
  (hb.cell (World.block_lt_of_cell? w _ hc)).trans hc
theorem typed_apart {w : World} {b1 b2 t1 t2 n1 n2 : Nat} {v1 v2 : Value} {x1 x2 : List Value} (h1 : w.ownsRow b1 t1 1 v1 n1 x1) (h2 : w.ownsRow b2 t2 1 v2 n2 x2) (ht : t1 ≠ t2) : v1.ownBlock = none ∨ v1.ownBlock ≠ v2.ownBlock := by
  cases e : v1.ownBlock with
  | none => exact .inl rfl
  | some k =>
    refine .inr fun e2 => ht ?_
    obtain ⟨c1, k1⟩ := own_typed h1 k e
    obtain ⟨c2, k2⟩ := own_typed h2 k e2.symm
    rw [k1] at k2
    injection k2 with k2
    injection k2
theorem apart_symm {v1 v2 : Value} (h : v1.ownBlock = none ∨ v1.ownBlock ≠ v2.ownBlock) : v2.ownBlock = none ∨ v2.ownBlock ≠ v1.ownBlock := by
  rcases h with h | h
  · cases e : v2.ownBlock with
    | none => exact .inl rfl
    | some k => rw [h]; exact .inr (by simp)
  · exact .inr (Ne.symm h)
theorem apart_new {w : World} {b t n : Nat} {v v1 v' : Value} {x : List Value} (h : v.ownBlock = none ∨ v.ownBlock ≠ v1.ownBlock) (ho : w.ownsRow b t 1 v n x) (hat : v'.ownBlock = v1.ownBlock ∨ ∃ b, v'.ownBlock = some b ∧ w.heap.size ≤ b) : v.ownBlock = none ∨ v.ownBlock ≠ v'.ownBlock := by
  rcases hat with e | ⟨k, e, hk⟩
  · rw [e]; exact h
  · refine .inr fun e2 => ?_
    have := own_lt ho k (by rw [e2, e])
    omega
theorem own_form {w : World} {base t n : Nat} {v : Value} {xs : List Value} (h : w.ownsRow base t 1 v n xs) : ∃ A c, v = .slice A n c := by
  rcases h.2 with ⟨e, hx⟩ | ⟨g, cap, cur, e, _, _, hn, _⟩
  · have hz : n = 0 := by have := h.1; rw [hx] at this; simp at this; omega
    rw [hz]; exact ⟨_, 0, e⟩
  · exact ⟨_, cap, e⟩
theorem own_some {w : World} {base t n m c : Nat} {A : Option Addr} {xs : List Value} (h : w.ownsRow base t 1 (.slice A n c) m xs) (hn : 0 < n) : ∃ g, A = some ⟨g, 0, none⟩ := by
  rcases h.2 with ⟨e, hx⟩ | ⟨g, cap, cur, e, _⟩
  · injection e with _ e _; omega
  · injection e with e _ _; exact ⟨g, e⟩
theorem head_cell {W : World} {base g n c : Nat} {hs : List Hdr} (h : W.ownsRow base 29 1 (.slice (some ⟨g, 0, none⟩) n c) hs.length (encs hdV hs)) (k : Nat) (hk : k < hs.length) : ∃ u, W.cell? ⟨g, k, none⟩ = some u ∧ W.frozen? ⟨g, k, none⟩ = false ∧ g < W.heap.size := by
  obtain ⟨cells, hh⟩ := own_typed h g rfl
  have hn : n = hs.length := by
    rcases h.2 with ⟨e, _⟩ | ⟨g', cap, cur, e, r⟩
    · injection e with e; cases e
    · injection e with _ e _
  subst hn
  have := own_at_of (d := ((none, 0, 0) : Hdr)) h (k : Int) (by omega) (by omega)
  rw [Int.toNat_natCast] at this
  exact ⟨_, this.1, this.2, own_lt h g rfl⟩
theorem set_heads {g n c : Nat} {W : World} {base : Nat} {hs : List Hdr} (h : W.ownsRow base 29 1 (.slice (some ⟨g, 0, none⟩) n c) hs.length (encs hdV hs)) (k : Nat) (hd : Hdr) :
    (W.setCell ⟨g, k, none⟩ (hdV hd)).ownsRow base 29 1 (.slice (some ⟨g, 0, none⟩) n c) (hs.set k hd).length (encs hdV (hs.set k hd)) ∧ W.grownBy (W.setCell ⟨g, k, none⟩ (hdV hd)) (some g) := by
  have hn : n = hs.length := by
    rcases h.2 with ⟨e, _⟩ | ⟨g', cap, cur, e, r⟩
    · injection e with e; cases e
    · injection e with _ e _
  subst hn
  have := own_store_of (enc := hdV) h (k : Int) hd
  rw [Int.toNat_natCast] at this
  rw [List.length_set]
  exact this
theorem row5_bytes {w : World} {g : Nat} {l : List Int} (h : w.heap[g]? = some (.cells (bytesV l) 5 (0, 0))) (hl : l.length ≤ 281474976710656) : Row5 w (some ⟨g, 0, none⟩, l.length, l.length) l :=
  ⟨rfl, Nat.le_refl _, hl, fun _ => ⟨g, 0, _, _, rfl, h, fun x y hx => by rw [Nat.zero_add, bytesV_get, hx]; rfl⟩⟩
theorem row5_empty (w : World) (A : Option Addr) : Row5 w (A, 0, 0) [] := ⟨rfl, Nat.le_refl _, by decide, fun h => absurd h (by decide)⟩
theorem row5_own {w : World} {base n c : Nat} {A : Option Addr} {l : List Int} (h : w.ownsRow base 5 1 (.slice A n c) l.length (nums .u8 l)) (hl : l.length ≤ 281474976710656) : Row5 w (A, n, c) l ∧ n = l.length := by
  rcases h with ⟨hlen, ⟨e, hz⟩ | ⟨g, cap, cur, e, hg, hh, hnc, hcm, hcs, htk⟩⟩
  · injection e with e1 e2 e3
    subst e1; subst e2; subst e3
    have hl0 : l = [] := List.eq_nil_of_length_eq_zero hz
    subst hl0
    exact ⟨row5_empty w none, rfl⟩
  · injection e with e1 e2 e3
    subst e1; subst e2; subst e3
    refine ⟨⟨rfl, hnc, hl, fun _ => ⟨g, 0, _, _, rfl, hh, fun x y hx => ?_⟩⟩, rfl⟩
    have hlt := (List.getElem?_eq_some_iff.1 hx).1
    have h2 := congrArg (fun q : List Value => q[x]?) htk
    simp only [Nat.mul_one] at h2
    rw [List.getElem?_take, if_pos hlt] at h2
    unfold nums at h2
    rw [List.getElem?_map, hx] at h2
    rw [Nat.zero_add, ← Array.getElem?_toList]
    exact h2
theorem own_heads {w : World} {base g : Nat} {hs : List Hdr} (hg : base ≤ g) (hh : w.heap[g]? = some (.cells (encs hdV hs).toArray 29 (0, 0))) (hl : hs.length ≤ 1000) : w.ownsRow base 29 1 (.slice (some ⟨g, 0, none⟩) hs.length hs.length) hs.length (encs hdV hs) := by
  have e : (encs hdV hs).length = hs.length := by simp [encs]
  refine ⟨by rw [e, Nat.mul_one], .inr ⟨g, hs.length, _, rfl, hg, hh, Nat.le_refl _, by unfold maxLen; omega, by rw [List.size_toArray, e, Nat.mul_one], ?_⟩⟩
  rw [List.toList_toArray, Nat.mul_one, ← e, List.take_length]
end Go.Proofs.Ytdleoljbnjjdgaa.Bok
