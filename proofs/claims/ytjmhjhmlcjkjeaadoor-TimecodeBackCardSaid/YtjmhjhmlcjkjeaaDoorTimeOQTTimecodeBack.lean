/- A part of a proof: see the text's own remark. No conditions beyond its theorems' own. -/
import Derived.Test.YtjmhjhmlcjkjeaaDoorTimeMQTTimecodeBack
import Derived.Lib.Bytes
/-! names in order -/
namespace Go.Proofs.YtjmhjhmlcjkjeaaDoor.TQTTimecodeBack
open Go.RowKit Go.Proofs.YtjmhjhmlcjkjeaaDoor.QTTimecodeBack Go.Proofs.YtjmhjhmlcjkjeaaDoorW.PrintWords Go.Proofs.YtjmhjhmlcjkjeaaDoorW.PrintLast
def lessN : List Nat → List Nat → Bool
  | _, [] => false
  | [], _ :: _ => true
  | a :: x, b :: y => decide (a < b) || (decide (a = b) && lessN x y)
theorem u8_lt {a b : Nat} (ha : a < 256) (hb : b < 256) : decide (UInt8.ofNat a < UInt8.ofNat b) = decide (a < b) := by
  apply decide_eq_decide.2
  rw [UInt8.lt_iff_toNat_lt]
  show a % 256 < b % 256 ↔ _
  rw [Nat.mod_eq_of_lt ha, Nat.mod_eq_of_lt hb]
theorem u8_eq {a b : Nat} (ha : a < 256) (hb : b < 256) : (UInt8.ofNat a == UInt8.ofNat b) = decide (a = b) := by
  by_cases h : a = b
  · subst h; rw [decide_eq_true rfl]; exact beq_self_eq_true _
  · rw [decide_eq_false h, beq_eq_false_iff_ne]
    intro e
    have := congrArg UInt8.toNat e
    have h2 : a % 256 = b % 256 := this
    rw [Nat.mod_eq_of_lt ha, Nat.mod_eq_of_lt hb] at h2
    exact h h2
theorem less_map : ∀ (l m : List Nat), (∀ x ∈ l, x < 256) → (∀ x ∈ m, x < 256) → Op.bytesLess (l.map UInt8.ofNat) (m.map UInt8.ofNat) = lessN l m
  | [], [], _, _ => rfl
  | _ :: _, [], _, _ => rfl
  | [], _ :: _, _, _ => rfl
  | a :: x, b :: y, hl, hm => by
    show (decide (UInt8.ofNat a < UInt8.ofNat b) || (UInt8.ofNat a == UInt8.ofNat b && Op.bytesLess (x.map UInt8.ofNat) (y.map UInt8.ofNat))) = (decide (a < b) || (decide (a = b) && lessN x y))
    rw [u8_lt (hl a List.mem_cons_self) (hm b List.mem_cons_self), u8_eq (hl a List.mem_cons_self) (hm b List.mem_cons_self), less_map x y (fun z hz => hl z (List.mem_cons_of_mem _ hz)) (fun z hz => hm z (List.mem_cons_of_mem _ hz))]
theorem less_same (a : Nat) (x y : List Nat) : lessN (a :: x) (a :: y) = lessN x y := by
  show (decide (a < a) || (decide (a = a) && lessN x y)) = _
  rw [decide_eq_false (Nat.lt_irrefl a), decide_eq_true rfl, Bool.false_or, Bool.true_and]
theorem less_two (x y : Nat) (r s : List Nat) : lessN ((48 + x / 10) :: (48 + x % 10) :: r) ((48 + y / 10) :: (48 + y % 10) :: s) = (decide (x < y) || (decide (x = y) && lessN r s)) := by
  show (decide (48 + x / 10 < 48 + y / 10) || (decide (48 + x / 10 = 48 + y / 10) && (decide (48 + x % 10 < 48 + y % 10) || (decide (48 + x % 10 = 48 + y % 10) && lessN r s)))) = _
  rw [Bool.eq_iff_iff]
  simp only [Bool.or_eq_true, Bool.and_eq_true, decide_eq_true_eq]
  generalize lessN r s = b
  constructor
  · rintro (h | ⟨h, h2 | ⟨h2, h3⟩⟩)
    · exact .inl (by omega)
    · exact .inl (by omega)
    · exact .inr ⟨by omega, h3⟩
  · rintro (h | ⟨h, h3⟩)
    · by_cases h2 : 48 + x / 10 < 48 + y / 10
      · exact .inl h2
      · exact .inr ⟨by omega, .inl (by omega)⟩
    · exact .inr ⟨by omega, .inr ⟨by omega, h3⟩⟩
theorem less_div {c N M : Nat} (hc : 0 < c) : N < M ↔ N / c < M / c ∨ (N / c = M / c ∧ N % c < M % c) := by
  have h1 := Nat.div_add_mod N c
  have h2 := Nat.div_add_mod M c
  have h3 : N % c < c := Nat.mod_lt _ hc
  have h4 : M % c < c := Nat.mod_lt _ hc
  generalize N / c = S at h1 ⊢
  generalize M / c = T at h2 ⊢
  rcases Nat.lt_trichotomy S T with h | h | h
  · have : c * (S + 1) ≤ c * T := Nat.mul_le_mul_left c h
    rw [Nat.mul_add, Nat.mul_one] at this
    exact ⟨fun _ => .inl h, fun _ => by omega⟩
  · subst h
    exact ⟨fun _ => .inr ⟨rfl, by omega⟩, fun _ => by omega⟩
  · have : c * (T + 1) ≤ c * S := Nat.mul_le_mul_left c h
    rw [Nat.mul_add, Nat.mul_one] at this
    exact ⟨fun _ => by omega, fun _ => by omega⟩
theorem less_name {mk c N M : Nat} (hc : 0 < c) : lessN (nameL mk c N) (nameL mk c M) = decide (N < M) := by
  unfold nameL
  rw [less_two, less_same, less_two, less_same, less_two, less_same, less_two]
  rw [Bool.eq_iff_iff]
  simp only [Bool.or_eq_true, Bool.and_eq_true, decide_eq_true_eq]
  rw [less_div (N := N) (M := M) hc]
  generalize N / c = S
  generalize M / c = T
  generalize N % c = F
  generalize M % c = G
  constructor
  · rintro (h | ⟨h, h | ⟨h2, h | ⟨h3, h | ⟨h4, h⟩⟩⟩⟩)
    · exact .inl (by omega)
    · exact .inl (by omega)
    · exact .inl (by omega)
    · exact .inr ⟨by omega, h⟩
    · cases h
  · rintro (h | ⟨rfl, h⟩)
    · by_cases a : S / 3600 < T / 3600
      · exact .inl a
      · refine .inr ⟨by omega, ?_⟩
        by_cases b : S / 60 % 60 < T / 60 % 60
        · exact .inl b
        · exact .inr ⟨by omega, .inl (by omega)⟩
    · exact .inr ⟨rfl, .inr ⟨rfl, .inr ⟨rfl, .inl h⟩⟩⟩
theorem name_lt {mk c N : Nat} (hmk : mk < 256) (hN : N / c < 86400) (hF : N % c < 100) : ∀ x ∈ nameL mk c N, x < 256 := by
  intro x hx
  unfold nameL at hx
  simp only [List.mem_cons, List.not_mem_nil, or_false] at hx
  generalize N / c = S at hN hx
  generalize N % c = F at hF hx
  omega
theorem nameS_list (mk c N : Nat) : (nameS mk c N).toList = (nameL mk c N).map UInt8.ofNat := by
  unfold nameS
  rw [Lib.strOfNums_toList]
  unfold Lib.bytesOf
  rw [List.map_map]
  apply List.map_congr_left
  intro x _
  show UInt8.ofNat (Int.toNat ((x : Nat) : Int)) = _
  rw [Int.toNat_natCast]
theorem nameS_less {mk c N M : Nat} (hc : 0 < c) (hc2 : c ≤ 100) (hmk : mk < 256) (hN : N < 86400 * c) (hM : M < 86400 * c) : Op.bytesLess (nameS mk c N).toList (nameS mk c M).toList = decide (N < M) := by
  have a1 : N / c < 86400 := Nat.div_lt_of_lt_mul (by rw [Nat.mul_comm]; exact hN)
  have a2 : M / c < 86400 := Nat.div_lt_of_lt_mul (by rw [Nat.mul_comm]; exact hM)
  have a3 : N % c < c := Nat.mod_lt _ hc
  have a4 : M % c < c := Nat.mod_lt _ hc
  rw [nameS_list, nameS_list, less_map _ _ (name_lt hmk a1 (by omega)) (name_lt hmk a2 (by omega)), less_name hc]
theorem nameS_eq {mk c N M : Nat} (hc : 0 < c) (hc2 : c ≤ 100) (hmk : mk < 256) (hN : N < 86400 * c) (hM : M < 86400 * c) : ((nameS mk c N).toList == (nameS mk c M).toList) = decide (N = M) := by
  by_cases h : N = M
  · subst h; rw [decide_eq_true rfl]; exact beq_self_eq_true _
  · rw [decide_eq_false h, beq_eq_false_iff_ne]
    intro e
    have h1 := nameS_less (mk := mk) hc hc2 hmk hN hM
    have h2 := nameS_less (mk := mk) hc hc2 hmk hM hN
    have h3 := nameS_less (mk := mk) hc hc2 hmk hN hN
    rw [decide_eq_false (Nat.lt_irrefl N)] at h3
    rw [← e, h3] at h1
    rw [← e, h3] at h2
    have n1 := of_decide_eq_false h1.symm
    have n2 := of_decide_eq_false h2.symm
    omega
end Go.Proofs.YtjmhjhmlcjkjeaaDoor.TQTTimecodeBack
