/- A part of a proof: see the text's own remarks. No conditions beyond its theorems' own. -/
import Derived.Test.YtdhajlkiiphlfaaPh
/-! ParityWide: the rows by a rule, the rows of pairs that are read, and what more the world of ParityBack does -/
namespace Go.Proofs.Ytdhajlkiiphlfaa.Par
open Go.RowKit Go.Proofs.Ytdhajlkiiphlfaa.QBaseParityWide Go.Proofs.YtdhajlkiiphlfaaW.PrintWords Go.Proofs.YtdhajlkiiphlfaaW.PrintLast Go.Proofs.YtdhajlkiiphlfaaW.PrintMore Go.Proofs.Ytdhajlkiiphlfaa.Solve
set_option linter.unusedVariables false
set_option linter.unusedSimpArgs false
def InI (x : Int) : Prop := -9223372036854775808 ≤ x ∧ x ≤ 9223372036854775807
theorem row_l0 : ∀ (d i : Nat) (xs : List Int) (x4 : Int) (k : Nat), i + d = xs.length → d < k → xs.length ≤ 140737488355328 → (∀ y ∈ xs, In8 y) → ∃ r, dailieslaw05_Wide_row.l0 k xs x4 (i : Int) = some r ∧ r.length = xs.length ∧ ∀ y ∈ r, In8 y := by
  intro d
  induction d with
  | zero =>
    intro i xs x4 k h hk hn hin
    obtain ⟨k, rfl⟩ : ∃ m, k = m + 1 := ⟨k - 1, by omega⟩
    rw [dailieslaw05_Wide_row.l0, if_neg (by omega)]
    exact ⟨xs, rfl, rfl, hin⟩
  | succ d ih =>
    intro i xs x4 k h hk hn hin
    obtain ⟨k, rfl⟩ : ∃ m, k = m + 1 := ⟨k - 1, by omega⟩
    rw [dailieslaw05_Wide_row.l0, if_pos (by omega), if_pos (by omega), wr1 (n := xs.length) (by omega) hn, Int.toNat_natCast]
    obtain ⟨r, h1, h2, h3⟩ := ih (i + 1) (xs.set i ((((1664525 * x4) % 4294967296 + 1013904223) % 4294967296) / 16777216)) (((1664525 * x4) % 4294967296 + 1013904223) % 4294967296) k (by rw [List.length_set]; omega) (by omega) (by rw [List.length_set]; exact hn) (fun y hy => by
      rcases List.mem_or_eq_of_mem_set hy with e | e
      · exact hin y e
      · rw [e]; unfold In8; omega)
    exact ⟨r, h1, by rw [h2, List.length_set], h3⟩
def RowP (a b : Int) (r : List Int) : Prop := (∃ k, dailieslaw05_Wide_row.f k a b = some r) ∧ r.length ≤ 70000 ∧ ∀ y ∈ r, In8 y
theorem row_ex (a b : Int) (ha : InI a) : ∃ r, RowP a b r := by
  obtain ⟨p, hp, hf⟩ := pick_f a 70001 (by decide) ha.1 ha.2
  have hf' : dailieslaw05_pick.f a 70001 = some (p : Int) := hf
  obtain ⟨r, h1, h2, h3⟩ := row_l0 p 0 (List.replicate p 0) (b % 4294967296) (p + 1) (by rw [List.length_replicate]; omega) (by omega) (by rw [List.length_replicate]; omega) (fun y hy => by rw [List.eq_of_mem_replicate hy]; exact ⟨by decide, by decide⟩)
  refine ⟨r, ⟨p + 1, ?_⟩, by rw [h2, List.length_replicate]; omega, h3⟩
  unfold dailieslaw05_Wide_row.f
  rw [hf', Option.bind_some, if_pos (by omega), Int.toNat_natCast, if_pos (by omega)]
  exact h1
/-- the row of a rule -/
noncomputable def rowW (a b : Int) : List Int := Classical.epsilon (RowP a b)
theorem rowW_spec {a : Int} (b : Int) (ha : InI a) : RowP a b (rowW a b) := Classical.epsilon_spec (row_ex a b ha)
theorem row_calls (a b : Int) (ha : InI a) (w : World) : Calls Try.prog 17 #[.agg #[.int .i64 a, .int .i64 b]] w fun e w' => ∃ A c, e = .returned (.slice A (rowW a b).length c) ∧ Row5 w' (A, (rowW a b).length, c) (rowW a b) ∧ Below w.heap.size w w' := by
  obtain ⟨⟨k, hk⟩, hl, _⟩ := rowW_spec b ha
  refine (dailieslaw05_Wide_row.calls k a b _ w hk).mono ?_
  rintro e w' ⟨v, rfl, hR, hb⟩
  have ho := own_of_R hR
  obtain ⟨A, c, rfl⟩ := own_form ho
  exact ⟨A, c, rfl, (row5_own ho (by omega)).1, hb⟩
theorem pair_addr (ad : Addr) (n : Nat) : (⟨(ad.add n).block, (ad.add n).off + 1, none⟩ : Addr) = ad.add (n + 1) := by
  unfold Addr.add
  rw [if_neg (by omega : ¬ n + 1 = 0)]
  split
  · rename_i h; subst h; rfl
  · rfl
/-- pairs of numbers that are read -/
def WC (w : World) (A : Option Addr) (ws : List (Int × Int)) : Prop := ∀ i, i < ws.length → ∃ ad, A = some ad ∧ w.cell? (ad.add (i * 2)) = some (.int .i64 (ws.getD i (0, 0)).1) ∧ w.cell? (ad.add (i * 2 + 1)) = some (.int .i64 (ws.getD i (0, 0)).2)
theorem WC.below {w w' : World} {A : Option Addr} {ws : List (Int × Int)} (h : WC w A ws) (hb : Below w.heap.size w w') : WC w' A ws := fun i hi => by
  obtain ⟨ad, e, h1, h2⟩ := h i hi
  exact ⟨ad, e, cell_below5 hb h1, cell_below5 hb h2⟩
noncomputable def rowsW (ws : List (Int × Int)) (i : Nat) : List (List Int) := (ws.take i).map fun x => rowW x.1 x.2
theorem rowsW_length (ws : List (Int × Int)) {i : Nat} (hi : i ≤ ws.length) : (rowsW ws i).length = i := by unfold rowsW; rw [List.length_map, List.length_take]; omega
theorem rowsW_snoc (ws : List (Int × Int)) {i : Nat} (hi : i < ws.length) : rowsW ws (i + 1) = rowsW ws i ++ [rowW (ws.getD i (0, 0)).1 (ws.getD i (0, 0)).2] := by
  unfold rowsW
  rw [take_one ws hi, List.map_append, List.getD_eq_getElem?_getD, List.getElem?_eq_getElem hi]; rfl
theorem rowsW_get (ws : List (Int × Int)) {n i : Nat} (hn : n ≤ ws.length) (hi : i < n) : (rowsW ws n).getD i [] = rowW (ws.getD i (0, 0)).1 (ws.getD i (0, 0)).2 := by
  unfold rowsW
  rw [List.getD_eq_getElem?_getD, List.getElem?_map, List.getElem?_take, if_pos hi, List.getD_eq_getElem?_getD, List.getElem?_eq_getElem (by omega)]; rfl
theorem rowsW_mem {ws : List (Int × Int)} (h : ∀ x ∈ ws, InI x.1) {n : Nat} : ∀ r ∈ rowsW ws n, r.length ≤ 70000 ∧ ∀ y ∈ r, In8 y := by
  intro r hr
  obtain ⟨x, hx, rfl⟩ := List.mem_map.1 hr
  exact (rowW_spec x.2 (h x (List.mem_of_mem_take hx))).2
section
variable {w0 w w' : World} {v8 v9 v11 v13 v16 v' : Value} {h8 h9 : List Hdr} {m8 m9 : List (List Int)} {ls : List Int} {want : List ByteArray} {gone : List Int}
theorem Bk.app8 (h : Bk w0 w v8 v9 v11 v13 v16 h8 h9 m8 m9 ls want gone) {hd : Hdr} {r : List Int} (hown : w'.ownsRow w0.heap.size 41 1 v' (h8 ++ [hd]).length (encs hdV (h8 ++ [hd]))) (hb : Below w0.heap.size w0 w') (hg : w.grownBy w' v8.ownBlock) (hat : v'.ownBlock = v8.ownBlock ∨ ∃ b, v'.ownBlock = some b ∧ w.heap.size ≤ b) (hr : Row5 w hd r) :
    Bk w0 w' v' v9 v11 v13 v16 (h8 ++ [hd]) h9 (m8 ++ [r]) m9 ls want gone :=
  have hs : Same5 w w' := Same5.of_grown hg (fun k c f hk => ne5 (by decide) h.o8 hk)
  ⟨hb, hown, h.o9.kept hg (apart_symm h.n89), (h.r8.move hs).snoc (hr.move hs), h.r9.move hs, h.o11.kept hg (typed_apart h.o11 h.o8 (by decide)), h.o13.kept hg (typed_apart h.o13 h.o8 (by decide)), h.o16.kept hg (typed_apart h.o16 h.o8 (by decide)), apart_symm (apart_new (apart_symm h.n89) h.o9 hat), h.n1116⟩
/-- behind Make -/
theorem Bk.made {p g b : Nat} (h : Bk w0 w v8 v9 v11 v13 v16 h8 h9 m8 m9 ls want gone) (hcu : Cu w' w.heap.size g b (madeL m8 p)) (hp : p ≤ 16) (hb : Below w.heap.size w w') :
    ∃ k9 : List Hdr, k9.length = p ∧ Bk w0 w' v8 (.slice (some ⟨g, 0, none⟩) p p) v11 v13 v16 h8 k9 m8 (madeL m8 p) ls want gone := by
  obtain ⟨k9, hh, hdt⟩ := hcu.toDt
  have hl : k9.length = p := by rw [hdt.len]; simp [madeL]
  subst hl
  have hm := h.moved hb
  have ho9 := own_heads (base := w0.heap.size) (Nat.le_trans h.base hcu.hg) hh (by omega)
  refine ⟨k9, rfl, ⟨hm.below, hm.o8, ho9, hm.r8, hdt.rows5, hm.o11, hm.o13, hm.o16, ?_, hm.n1116⟩⟩
  refine .inr fun e => ?_
  have h1 := own_lt h.o8 g e
  have h2 := hcu.hg
  omega
theorem Bk.gone8 {g c n : Nat} (h : Bk w0 w (.slice (some ⟨g, 0, none⟩) n c) v9 v11 v13 v16 h8 h9 m8 m9 ls want gone) (k : Nat) : ∃ k8, Bk w0 (w.setCell ⟨g, k, none⟩ (.slice none 0 0)) (.slice (some ⟨g, 0, none⟩) n c) v9 v11 v13 v16 k8 h9 (m8.set k []) m9 ls want gone := ⟨_, h.set8 (hd := (none, 0, 0)) k (row5_empty _ _)⟩
theorem Bk.gone9 {g c n : Nat} (h : Bk w0 w v8 (.slice (some ⟨g, 0, none⟩) n c) v11 v13 v16 h8 h9 m8 m9 ls want gone) (k : Nat) : ∃ k9, Bk w0 (w.setCell ⟨g, k, none⟩ (.slice none 0 0)) v8 (.slice (some ⟨g, 0, none⟩) n c) v11 v13 v16 h8 k9 m8 (m9.set k []) ls want gone := ⟨_, h.set9 (hd := (none, 0, 0)) k (row5_empty _ _)⟩
theorem Bk.last8 {q : Nat} {ad : Addr} {c : Nat} {r : List Int} (h : Bk w0 w (.slice (some ad) q c) v9 v11 v13 v16 h8 h9 (m8 ++ [r]) m9 ls want gone) (hq : m8.length < q) : ∃ B d, w.cell? (ad.add m8.length) = some (.slice B r.length d) := by
  obtain ⟨ad', B, d, e, hx, hl, hC⟩ := at_L2 (h.r8.toC h.o8) (m8.length : Int) (by omega) (by omega)
  cases e
  have hg : (m8 ++ [r]).getD m8.length [] = r := by rw [List.getD_eq_getElem?_getD, List.getElem?_append_right (Nat.le_refl _), Nat.sub_self]; rfl
  rw [rdL_nat, hg, Int.toNat_natCast] at hx
  exact ⟨B, d, hx⟩
end
end Go.Proofs.Ytdhajlkiiphlfaa.Par
/-! comesBack, walked -/
namespace Go.Proofs.Ytdhajlkiiphlfaa.Par
open Go.RowKit Go.Proofs.Ytdhajlkiiphlfaa.QBaseParityWide Go.Proofs.YtdhajlkiiphlfaaW.PrintWords Go.Proofs.YtdhajlkiiphlfaaW.PrintLast Go.Proofs.YtdhajlkiiphlfaaW.PrintMore Go.Proofs.Ytdhajlkiiphlfaa.Solve
set_option linter.unusedVariables false
set_option linter.unusedSimpArgs false
set_option maxHeartbeats 800000 in
set_option maxRecDepth 100000 in
theorem comes_calls (w0 w : World) (A0 A4 : Option Addr) (c0 c1 c4 g p : Nat) (ad1 : Addr) (v2 : Value) (ws : List (Int × Int)) (rows : List (List Int)) (lost : List Int) (h8 h9 : List Hdr)
    (hW : WC w0 A0 ws) (hws : ∀ x ∈ ws, InI x.1) (hn : rows.length ≤ ws.length) (hnn : ws.length ≤ 140737488355328) (hr : ∀ i, i < rows.length → rows.getD i [] = rowW (ws.getD i (0, 0)).1 (ws.getD i (0, 0)).2) (h0 : 0 < rows.length) (h5 : rows.length ≤ 5)
    (hin : ∀ r ∈ rows, r.length ≤ 70000 ∧ ∀ y ∈ r, In8 y) (hp1 : 1 ≤ p) (hp : p ≤ 16)
    (hr4 : Kd.C (Kd.int .i64) w0 A4 lost.length lost) (hlo : lost.length ≤ 140737488355328) (hlin : ∀ y ∈ lost, InI y)
    (hbk : Bk w0 w (.slice (some ad1) rows.length c1) (.slice (some ⟨g, 0, none⟩) p p) v2 (.slice none 0 0) (.slice none 0 0) h8 h9 rows (madeL rows p) (lensI rows) [] []) :
    Calls Try.prog 20 #[.slice A0 ws.length c0, .slice (some ad1) rows.length c1, v2, .slice (some ⟨g, 0, none⟩) p p, .slice A4 lost.length c4] w fun e w' => e = .returned (.bool true) ∧ Below w0.heap.size w0 w' := by
  have HW := Aside0.mk hW
  have HWS := Aside0.mk hws
  have HN := Aside0.mk hn
  have HNN := Aside0.mk hnn
  have HR := Aside0.mk hr
  have H0 := Aside0.mk h0
  have H5 := Aside0.mk h5
  have HRI : Aside0 (∀ r ∈ rows, ∀ y ∈ r, In8 y) := ⟨fun r hr => (hin r hr).2⟩
  have HRS : Aside0 (∀ r ∈ rows, r.length ≤ 16777216) := ⟨fun r hr => by have := (hin r hr).1; omega⟩
  have HP1 := Aside0.mk hp1
  have HP := Aside0.mk hp
  have HR4 := Aside0.mk hr4
  have HLO := Aside0.mk hlo
  have HLIN := Aside0.mk hlin
  have HBK := Aside0.mk hbk
  have HML := Aside0.mk (show (madeL rows p).length = p by simp [madeL])
  clear hW hws hn hnn hr h0 h5 hin hp1 hp hr4 hlo hlin hbk
  go_enter Try.func20, Try.ntmps20
  go_wp2
  go_loopw [12, 13] (fun v12 v13 wr => ∃ (j : Nat) (x12 : Value), j ≤ p ∧ x12 = v12 ∧ v13 = .int .i64 (j : Int) ∧ Aside0 (Bk w0 wr (.slice (some ad1) rows.length c1) (.slice (some ⟨g, 0, none⟩) p p) v2 x12 (.slice none 0 0) h8 h9 rows (madeL rows p) (lensI rows) (strs ((madeL rows p).take j)) [])) (fun _ v13 _ => p - (intOf v13).toNat)
  case atStart => exact ⟨0, _, Nat.zero_le _, rfl, rfl, HBK⟩
  case round =>
    clear HBK
    obtain ⟨j, x12, hj, rfl, rfl, HBK⟩ := hrel
    by_cases hjlt : j < p
    · --{ 1
      have hd2 : decide ((j : Int) < (p : Int)) = true := decide_eq_true (by omega)
      have hd2' : decide (j < p) = true := decide_eq_true hjlt
      have hjm : j < (madeL rows p).length := by rw [HML.out]; exact hjlt
      obtain ⟨B2, d2, hx2, hk2⟩ := more_again hjm HBK.out
      have HTK := Aside0.mk (take_one (madeL rows p) hjm)
      have hrl : (madeL rows p)[j].length = widthL rows := made_row _ (List.getElem_mem hjm)
      have kst := Kd.C_string (P := Try.prog) (c := d2) Try.underlying41 Try.underlying5 Try.underlying9 hk2
      rw [hrl] at hx2 kst
      generalize (madeL rows p)[j] = r at *
      have HLN : Aside0 ((strs ((madeL rows p).take j)).length ≤ 1000) := ⟨by rw [strs_length, List.length_take]; have := HP.out; omega⟩
      have HW1 := Aside0.mk (wr1 (i := j) hjlt (by have := HP.out; omega))
      have HLT := Aside0.mk hjlt
      have hlj : (j : Int) < (p : Int) := by omega
      clear hjlt hj hjm hrl hk2
      go_wp2_with (first
        | ((with_reducible refine gate_builtin (b := .append) (xs := #[.tmp 29, .tmp 35]) rfl ?_); at_builtin; refine print_append_of (w0 := w0) Value.string w0.heap.size rfl (.tmp 29) (.tmp 35) 29 9 (.string ⟨#[]⟩) 16 rfl Try.underlying29 info9' sc1 (by decide) x12 (strs ((madeL rows p).take j)) (strOfNums r) ?q1 ?q2 ?q3 HBK.out.o13 HBK.out.below HBK.out.base ?q4 ?_; (case q3 => exact rfl); (case q4 => have := HLN.out; omega); (case q1 => rfl); (case q2 => rfl); intro y13 w7 hown hb hg hat; have HBK7 := Aside0.mk (HBK.out.app13 hown hb hg); clear hown hb hg hat))
      clear kst hx2
      go_roundw
      case rel => exact ⟨j + 1, _, HLT.out, rfl, by rw [HW1.out], ⟨by rw [HTK.out, strs_snoc]; exact HBK7.out⟩⟩
      case measure => exact meas HW1.out HLT.out
      --}
    · have hd2 : decide ((j : Int) < (p : Int)) = false := decide_eq_false (by omega)
      have hd2' : decide (j < p) = false := decide_eq_false hjlt
      obtain rfl : p = j := by omega
      have HTK : (madeL rows p).take p = madeL rows p := List.take_of_length_le (by rw [HML.out]; exact Nat.le_refl _)
      rw [HTK] at HBK
      clear hjlt hj HTK
      obtain ⟨A13, c13, e13⟩ := own_form HBK.out.o13
      have HWL : Aside0 ((strs (madeL rows p)).length = p) := ⟨by rw [strs_length, HML.out]⟩
      rw [HWL.out] at e13
      obtain rfl := e13
      have HGS := Aside0.mk (Gst.start HRI.out (made_in rows (by have := H5.out; omega) p) HML.out)
      go_wp2
      go_loopw [14, 15, 16] (fun v14 v15 v16 wr => ∃ (i : Nat) (x16 : Value) (k8 k9 : List Hdr) (m8 m9 : List (List Int)) (gone : List Int), i ≤ lost.length ∧ i ≤ p ∧ x16 = v14 ∧ v15 = .int .i64 (i : Int) ∧ Aside0 (gone.length = i) ∧ Aside0 (Gst rows m8 m9 gone rows.length p) ∧ Aside0 (Bk w0 wr (.slice (some ad1) rows.length c1) (.slice (some ⟨g, 0, none⟩) p p) v2 (.slice A13 p c13) x16 k8 k9 m8 m9 (lensI rows) (strs (madeL rows p)) gone)) (fun _ v15 _ _ => lost.length - (intOf v15).toNat)
      case atStart => exact ⟨0, _, _, _, _, _, [], Nat.zero_le _, Nat.zero_le _, rfl, rfl, ⟨rfl⟩, HGS, HBK⟩
      case round =>
        clear HBK HGS
        obtain ⟨i, x16, k8, k9, m8, m9, gone, hi, hi2, rfl, rfl, HGL, HGS, HBK⟩ := hrel
        obtain ⟨A16, c16, e16⟩ := own_form HBK.out.o16
        rw [HGL.out] at e16
        obtain rfl := e16
        by_cases hil : i < lost.length
        · have hd3 : decide ((i : Int) < (lost.length : Int)) = true := decide_eq_true (by omega)
          have hd3' : decide (i < lost.length) = true := decide_eq_true hil
          by_cases hip : i < p
          · --{ 3
            have hd4 : decide ((i : Int) < (p : Int)) = true := decide_eq_true (by omega)
            have hd4' : decide (i < p) = true := decide_eq_true hip
            obtain ⟨ae, e4, hx4⟩ := Kd.at_int (Kd.C_below HR4.out HBK.out.below) (i : Int) (by omega) (by omega)
            cases e4
            rw [Int.toNat_natCast, rd_nat] at hx4
            have hlm : lost.getD i 0 ∈ lost := by rw [List.getD_eq_getElem?_getD, List.getElem?_eq_getElem hil]; exact List.getElem_mem hil
            obtain ⟨k, hk, hpk⟩ := pick_f (lost.getD i 0) (rows.length + p) (by omega) (HLIN.out _ hlm).1 (HLIN.out _ hlm).2
            generalize lost.getD i 0 = y at *
            have HPK : Aside0 (dailieslaw05_pick.f y ((rows.length : Int) + (p : Int)) = some (k : Int)) := ⟨by have h := hpk; rwa [Int.natCast_add] at h⟩
            have HKK := Aside0.mk hk
            have HIL := Aside0.mk hil
            have HIP := Aside0.mk hip
            have HW1 := Aside0.mk (wr1 (i := i) hil (by have := HLO.out; omega))
            have hwnp : wrap64 ((rows.length : Int) + (p : Int)) = (rows.length : Int) + (p : Int) := by have := H5.out; have := HP.out; unfold wrap64; omega
            have hil' : (i : Int) < (lost.length : Int) := by omega
            by_cases hkn : k < rows.length
            · have hd5 : decide ((k : Int) < (rows.length : Int)) = true := decide_eq_true (by omega)
              have hd5' : decide (k < rows.length) = true := decide_eq_true hkn
              have HKN := Aside0.mk hkn
              have hkn' : (k : Int) < (rows.length : Int) := by omega
              obtain ⟨g8, e8⟩ := own_some HBK.out.o8 (by omega)
              obtain rfl := Option.some.inj e8
              clear hil hip hi hi2 hkn hlm hpk hk
              go_wp2_with (first
                | (go_at_call 14; (with_reducible refine (dailieslaw05_pick.calls _ _ (k : Int) _ HPK.out).mono ?_); rintro e w4 ⟨rfl, ⟨nd, rfl⟩⟩; have HBK4 := Aside0.mk (HBK.out.drewN nd))
                | ((with_reducible refine gate_builtin (b := .append) (xs := #[.tmp 59, .tmp 61]) rfl ?_); at_builtin; refine print_append_num (w0 := w0) w0.heap.size rfl (.tmp 59) (.tmp 61) 30 3 .i64 8 rfl Try.underlying30 info3 (by decide) (.slice A16 i c16) gone (k : Int) ?q1 ?q2 HBK4.out.o16 HBK4.out.below HBK4.out.base ?q4 ?_; (case q1 => rfl); (case q2 => rfl); (case q4 => have := HGL.out; have := HIP.out; have := HP.out; omega); intro y16 w6 hown hb hg hat; have hbk6 := HBK4.out.app16 hown hb hg hat; have HBK6 := Aside0.mk hbk6; obtain ⟨u, hcu, hfu, hlu⟩ := head_cell hbk6.o8 k (by rw [hbk6.r8.len, HGS.out.rn]; exact HKN.out); clear hown hb hg hat hbk6))
              clear hcu hfu hlu hx4
              obtain ⟨k8', hbk9⟩ := HBK6.out.gone8 k
              have HBK9 := Aside0.mk hbk9
              clear hbk9
              go_roundw
              case rel => exact ⟨i + 1, _, _, _, _, _, _, HIL.out, HIP.out, rfl, by rw [HW1.out], ⟨by rw [List.length_append, HGL.out]; rfl⟩, ⟨HGS.out.lose8 HKN.out (fun y hy => by simp at hy)⟩, HBK9⟩
              case measure => exact meas HW1.out HIL.out
            · have hd5 : decide ((k : Int) < (rows.length : Int)) = false := decide_eq_false (by omega)
              have hd5' : decide (k < rows.length) = false := decide_eq_false hkn
              have HKN : Aside0 (rows.length ≤ k) := ⟨by omega⟩
              have hks : wrap64 ((k : Int) - (rows.length : Int)) = ((k - rows.length : Nat) : Int) := by have := H5.out; have := HP.out; unfold wrap64; omega
              have hkp : ((k - rows.length : Nat) : Int) < (p : Int) := by omega
              have hkp2 : k - rows.length < p := by omega
              clear hil hip hi hi2 hkn hlm hpk hk
              go_wp2_with (first
                | (go_at_call 14; (with_reducible refine (dailieslaw05_pick.calls _ _ (k : Int) _ HPK.out).mono ?_); rintro e w4 ⟨rfl, ⟨nd, rfl⟩⟩; have HBK4 := Aside0.mk (HBK.out.drewN nd))
                | ((with_reducible refine gate_builtin (b := .append) (xs := #[.tmp 59, .tmp 61]) rfl ?_); at_builtin; refine print_append_num (w0 := w0) w0.heap.size rfl (.tmp 59) (.tmp 61) 30 3 .i64 8 rfl Try.underlying30 info3 (by decide) (.slice A16 i c16) gone (k : Int) ?q1 ?q2 HBK4.out.o16 HBK4.out.below HBK4.out.base ?q4 ?_; (case q1 => rfl); (case q2 => rfl); (case q4 => have := HGL.out; have := HIP.out; have := HP.out; omega); intro y16 w6 hown hb hg hat; have hbk6 := HBK4.out.app16 hown hb hg hat; have HBK6 := Aside0.mk hbk6;  obtain ⟨u, hcu, hfu, hlu⟩ := head_cell hbk6.o9 (k - rows.length) (by rw [hbk6.r9.len, HGS.out.pn]; have := HKN.out; have := HKK.out; omega); clear hown hb hg hat hbk6))
              clear hcu hfu hlu hx4
              obtain ⟨k9', hbk9⟩ := HBK6.out.gone9 (k - rows.length)
              have HBK9 := Aside0.mk hbk9
              clear hbk9
              go_roundw
              case rel => exact ⟨i + 1, _, _, _, _, _, _, HIL.out, HIP.out, rfl, by rw [HW1.out], ⟨by rw [List.length_append, HGL.out]; rfl⟩, ⟨HGS.out.lose9 HKN.out HKK.out (fun y hy => by simp at hy)⟩, HBK9⟩
              case measure => exact meas HW1.out HIL.out
            --}
          · have hd4 : decide ((i : Int) < (p : Int)) = false := decide_eq_false (by omega)
            have hd4' : decide (i < p) = false := decide_eq_false hip
            --TAIL
            have HGP : Aside0 (gone.length ≤ p) := ⟨by rw [HGL.out]; exact hi2⟩
            have HLS := Aside0.mk (HGS.out.lost rfl (by have := H5.out; omega) HP.out HRS.out HRI.out HGP.out)
            obtain ⟨A11, c11, e11, hc11, hC11⟩ := Kd.R_reads (R_of_own HBK.out.o11)
            obtain rfl := e11
            rw [lensI_length] at hc11 hC11 HBK ⊢
            obtain rfl := HGL.out
            obtain ⟨_, hc16, hC16⟩ := Kd.R_reads' (R_of_own HBK.out.o16)
            have HC11 := Aside0.mk hC11
            have HH11 := Aside0.mk hc11
            have HC16 := Aside0.mk hC16
            have HH16 := Aside0.mk hc16
            have HNL : Aside0 ((rows ++ madeL rows p).length = rows.length + p) := ⟨by rw [List.length_append, HML.out]⟩
            have hwnp : wrap64 ((rows.length : Int) + (p : Int)) = (rows.length : Int) + (p : Int) := by have := H5.out; have := HP.out; unfold wrap64; omega
            clear hi hi2 hc11 hC11 hc16 hC16
            go_wp2_with (first
              | (go_at_call 16; (with_reducible refine (restore_back _ _ _ _ _ _ _ _ rows m8 m9 gone rows.length p _ ?r0 ?r1 HC11.out HH11.out ?r2 ?r3 HC16.out HH16.out HLS.out HGS.out.rng ?r4).mono ?_); (case r0 => exact HBK.out.r8.toC HBK.out.o8); (case r1 => exact own_le HBK.out.o8); (case r2 => exact HBK.out.r9.toC HBK.out.o9); (case r3 => exact Nat.le_refl _); (case r4 => have := HGP.out; have := HP.out; omega); rintro e w7 ⟨v7, hs1, hs2, b1, b2, rfl, hrr, hb⟩; obtain ⟨A7, c7, rfl, hc7, hC7⟩ := hrr.reads; rw [HNL.out] at hc7 hC7 ⊢; have HC7 := Aside0.mk hC7; have HBK7 := Aside0.mk (HBK.out.moved hb); clear hrr hc7 hC7 hb))
            clear hwnp
            go_loopw [19] (fun v19 wr => ∃ i : Nat, i ≤ rows.length ∧ v19 = .int .i64 (i : Int) ∧ Aside0 (Below w7.heap.size w7 wr)) (fun v19 _ => rows.length - (intOf v19).toNat)
            case atStart => exact ⟨0, Nat.zero_le _, rfl, ⟨Below.refl _ _⟩⟩
            case round =>
              obtain ⟨q, hq, rfl, HB9⟩ := hrel
              by_cases hql : q < rows.length
              · have hd6 : decide ((q : Int) < (rows.length : Int)) = true := decide_eq_true (by omega)
                have hd6' : decide (q < rows.length) = true := decide_eq_true hql
                have hC9 := Kd.C_below HC7.out HB9.out
                obtain ⟨ad, B2, d2, e2, hx2, hl2, hk2⟩ := at_L2 hC9 (q : Int) (by omega) (by omega)
                cases e2
                rw [rdL_nat] at hx2 hl2 hk2
                rw [Int.toNat_natCast] at hx2
                have hgr : (rows ++ madeL rows p).getD q [] = rowW (ws.getD q (0, 0)).1 (ws.getD q (0, 0)).2 := by rw [List.getD_eq_getElem?_getD, List.getElem?_append_left hql, ← List.getD_eq_getElem?_getD, HR.out q hql]
                rw [hgr] at hx2 hl2 hk2
                have hqw : q < ws.length := by have := HN.out; omega
                obtain ⟨ada, rfl, hwa0, hwb0⟩ := HW.out q hqw
                have HWA : Aside0 (InI (ws.getD q (0, 0)).1) := ⟨by rw [List.getD_eq_getElem?_getD, List.getElem?_eq_getElem hqw]; exact HWS.out _ (List.getElem_mem hqw)⟩
                have hwa := cell_below5 (below_then HBK7.out.below HBK7.out.base HB9.out) hwa0
                have hwb := cell_below5 (below_then HBK7.out.below HBK7.out.base HB9.out) hwb0
                generalize (ws.getD q (0, 0)).1 = wa at *
                generalize (ws.getD q (0, 0)).2 = wb at *
                have HW1 := Aside0.mk (wr1 (i := q) hql (by have := H5.out; omega))
                have HQ := Aside0.mk hql
                have hq1 : (q : Int) < (rows.length : Int) := by omega
                have hq2 : (q : Int) < ((rows.length + p : Nat) : Int) := by omega
                have hq3 : (q : Int) < (rows.length : Int) + (p : Int) := by omega
                have hq4 : (q : Int) < (ws.length : Int) := by omega
                clear hql hq hC9 hgr hwa0 hwb0
                go_wp2_with (fail)
                refine start_ (n := 12) (S := fun w' => Below wr.heap.size wr w') (ds := []) #[false, false, false, false, false, false, false, false, false, false, false, false] (by kernel_rfl) rfl rfl (below_drew1 (Below.refl _ _)) (fun hHeld => ?_)
                refine pure_ (i := 0) (N := some 98) (v := ?_) (a' := ?_) #[true, false, false, false, false, false, false, false, false, false, false, false] rfl rfl (by kernel_rfl) (fun _ _ _ h => h) (Or.inl ⟨by rfl, ?_⟩) ?_ ?_
                rotate_left
                · intro w'
                  go_simp
                  with_reducible rfl
                rotate_left
                · simp only [Act.put, List.setIfInBounds_toArray, List.set_cons_zero, List.set_cons_succ, i64_w, i32_w]
                  rfl
                refine pure_ (i := 1) (N := some 99) (v := ?_) (a' := ?_) #[true, true, false, false, false, false, false, false, false, false, false, false] rfl rfl (by kernel_rfl) (fun _ _ _ h => h) (Or.inl ⟨by rfl, ?_⟩) ?_ ?_
                rotate_left
                · intro w'
                  go_simp
                  with_reducible rfl
                rotate_left
                · simp only [Act.put, List.setIfInBounds_toArray, List.set_cons_zero, List.set_cons_succ, i64_w, i32_w]
                  rfl
                refine pure_ (i := 2) (N := some 100) (v := ?_) (a' := ?_) #[true, true, true, false, false, false, false, false, false, false, false, false] rfl rfl (by kernel_rfl) (fun _ _ _ h => h) (Or.inl ⟨by rfl, ?_⟩) ?_ ?_
                rotate_left
                · intro w'
                  go_simp
                  with_reducible rfl
                rotate_left
                · simp only [Act.put, List.setIfInBounds_toArray, List.set_cons_zero, List.set_cons_succ, i64_w, i32_w]
                  rfl
                refine take_ (i := 3) (N := some 101) (v := ?_) (a' := ?_) #[true, true, true, true, false, false, false, false, false, false, false, false] rfl rfl (by kernel_rfl) (fun _ _ _ h => h) (Or.inl ⟨by rfl, ?_⟩) hHeld ?_ ?_
                rotate_left
                · intro w' hS
                  have hx' := cell_below5 hS hx2
                  have kst' := Kd.C_string (P := Try.prog) (c := d2) Try.underlying41 Try.underlying5 Try.underlying9 (Kd.C_below hk2 hS)
                  have ha' := cell_below5 hS hwa
                  have hb' : w'.cell? ⟨(ada.add (q * 2)).block, (ada.add (q * 2)).off + 1, none⟩ = some (.int .i64 wb) := by rw [pair_addr]; exact cell_below5 hS hwb
                  go_simp
                  with_reducible rfl
                rotate_left
                · simp only [Act.put, List.setIfInBounds_toArray, List.set_cons_zero, List.set_cons_succ, i64_w, i32_w]
                  rfl
                refine take_ (i := 4) (N := some 102) (v := ?_) (a' := ?_) #[true, true, true, true, true, false, false, false, false, false, false, false] rfl rfl (by kernel_rfl) (fun _ _ _ h => h) (Or.inl ⟨by rfl, ?_⟩) hHeld ?_ ?_
                rotate_left
                · intro w' hS
                  have hx' := cell_below5 hS hx2
                  have kst' := Kd.C_string (P := Try.prog) (c := d2) Try.underlying41 Try.underlying5 Try.underlying9 (Kd.C_below hk2 hS)
                  have ha' := cell_below5 hS hwa
                  have hb' : w'.cell? ⟨(ada.add (q * 2)).block, (ada.add (q * 2)).off + 1, none⟩ = some (.int .i64 wb) := by rw [pair_addr]; exact cell_below5 hS hwb
                  go_simp
                  with_reducible rfl
                rotate_left
                · simp only [Act.put, List.setIfInBounds_toArray, List.set_cons_zero, List.set_cons_succ, i64_w, i32_w]
                  rfl
                refine pure_ (i := 5) (N := some 103) (v := ?_) (a' := ?_) #[true, true, true, true, true, true, false, false, false, false, false, false] rfl rfl (by kernel_rfl) (fun _ _ _ h => h) (Or.inl ⟨by rfl, ?_⟩) ?_ ?_
                rotate_left
                · intro w'
                  go_simp
                  with_reducible rfl
                rotate_left
                · simp only [Act.put, List.setIfInBounds_toArray, List.set_cons_zero, List.set_cons_succ, i64_w, i32_w]
                  rfl
                refine pure_ (i := 6) (N := some 104) (v := ?_) (a' := ?_) #[true, true, true, true, true, true, true, false, false, false, false, false] rfl rfl (by kernel_rfl) (fun _ _ _ h => h) (Or.inl ⟨by rfl, ?_⟩) ?_ ?_
                rotate_left
                · intro w'
                  go_simp
                  with_reducible rfl
                rotate_left
                · simp only [Act.put, List.setIfInBounds_toArray, List.set_cons_zero, List.set_cons_succ, i64_w, i32_w]
                  rfl
                refine pure_ (i := 7) (N := some 105) (v := ?_) (a' := ?_) #[true, true, true, true, true, true, true, true, false, false, false, false] rfl rfl (by kernel_rfl) (fun _ _ _ h => h) (Or.inl ⟨by rfl, ?_⟩) ?_ ?_
                rotate_left
                · intro w'
                  go_simp
                  with_reducible rfl
                rotate_left
                · simp only [Act.put, List.setIfInBounds_toArray, List.set_cons_zero, List.set_cons_succ, i64_w, i32_w]
                  rfl
                refine take_ (i := 8) (N := some 106) (v := ?_) (a' := ?_) #[true, true, true, true, true, true, true, true, true, false, false, false] rfl rfl (by kernel_rfl) (fun _ _ _ h => h) (Or.inl ⟨by rfl, ?_⟩) hHeld ?_ ?_
                rotate_left
                · intro w' hS
                  have hx' := cell_below5 hS hx2
                  have kst' := Kd.C_string (P := Try.prog) (c := d2) Try.underlying41 Try.underlying5 Try.underlying9 (Kd.C_below hk2 hS)
                  have ha' := cell_below5 hS hwa
                  have hb' : w'.cell? ⟨(ada.add (q * 2)).block, (ada.add (q * 2)).off + 1, none⟩ = some (.int .i64 wb) := by rw [pair_addr]; exact cell_below5 hS hwb
                  go_simp
                  with_reducible rfl
                rotate_left
                · simp only [Act.put, List.setIfInBounds_toArray, List.set_cons_zero, List.set_cons_succ, i64_w, i32_w]
                  rfl
                refine one_ (i := 9) (N := some 107) #[true, true, true, true, true, true, true, true, true, true, false, false] rfl rfl (by kernel_rfl) (by decide) (fun K hK => ?_)
                refine goes_ Try.func17 (by kernel_rfl) rfl #[.agg #[.int .i64 wa, .int .i64 wb]] (by rfl) rfl rfl (by simp only [List.map_toArray, List.map_cons, List.map_nil]; rfl) ?_
                refine (row_calls wa wb HWA.out _).mono ?_
                rintro e w8 ⟨A8, c8, rfl, hr8, hb8⟩
                refine ⟨_, rfl, ?_⟩
                refine hK.out _ _ (below_step (below_drew1 (Below.refl _ _)) hb8) (fun hHeld => ?_)
                clear hK K
                refine norm_ (a' := ?_) ?_ ?_
                rotate_left
                · show Act.put _ (some 107) _ = _
                  simp only [Act.put, List.setIfInBounds_toArray, List.set_cons_zero, List.set_cons_succ, i64_w, i32_w]
                  rfl
                refine one_ (i := 10) (N := some 108) #[true, true, true, true, true, true, true, true, true, true, true, false] rfl rfl (by kernel_rfl) (by decide) (fun K hK => ?_)
                have kst8 := Kd.C_string (P := Try.prog) (c := c8) Try.underlying41 Try.underlying5 Try.underlying9 hr8.toC
                go_simp
                refine hK.out _ _ hHeld (fun hHeld => ?_)
                clear hK K
                refine pure_ (i := 11) (N := some 109) (v := ?_) (a' := ?_) #[true, true, true, true, true, true, true, true, true, true, true, true] rfl rfl (by kernel_rfl) (fun _ _ _ h => h) (Or.inl ⟨by rfl, ?_⟩) ?_ ?_
                rotate_left
                · intro w'
                  go_simp
                  with_reducible rfl
                rotate_left
                · simp only [Act.put, List.setIfInBounds_toArray, List.set_cons_zero, List.set_cons_succ, i64_w, i32_w]
                  rfl
                refine done_ (by kernel_rfl) ?_
                have HB10 : Aside0 (Below w7.heap.size w7 w8) := ⟨below_step HB9.out hHeld⟩
                clear hHeld hx2 hl2 hk2 hwa hwb hr8 hb8
                go_wp2
                go_roundw
                case rel => exact ⟨q + 1, HQ.out, by rw [HW1.out], HB10⟩
                case measure => exact meas HW1.out HQ.out
              · have hd6 : decide ((q : Int) < (rows.length : Int)) = false := decide_eq_false (by omega)
                have hd6' : decide (q < rows.length) = false := decide_eq_false hql
                obtain rfl : q = rows.length := by omega
                clear hql hq
                go_wp2
                go_loopw [20] (fun v20 wr => ∃ i : Nat, i ≤ p ∧ v20 = .int .i64 (i : Int) ∧ Aside0 (Below w7.heap.size w7 wr)) (fun v20 _ => p - (intOf v20).toNat)
                case atStart => exact ⟨0, Nat.zero_le _, rfl, HB9⟩
                case round =>
                  clear HB9
                  obtain ⟨q, hq, rfl, HB9⟩ := hrel
                  by_cases hql : q < p
                  · have hd7 : decide ((q : Int) < (p : Int)) = true := decide_eq_true (by omega)
                    have hd7' : decide (q < p) = true := decide_eq_true hql
                    have hC9 := Kd.C_below HC7.out HB9.out
                    obtain ⟨ad, B2, d2, e2, hx2, hl2, hk2⟩ := at_L2 hC9 ((rows.length + q : Nat) : Int) (by omega) (by omega)
                    cases e2
                    rw [rdL_nat] at hx2 hl2 hk2
                    rw [Int.toNat_natCast] at hx2
                    have hgr : (rows ++ madeL rows p).getD (rows.length + q) [] = (madeL rows p).getD q [] := by rw [List.getD_eq_getElem?_getD, List.getElem?_append_right (by omega), ← List.getD_eq_getElem?_getD, Nat.add_sub_cancel_left]
                    rw [hgr] at hx2 hl2 hk2
                    have hbk9 := HBK7.out.moved HB9.out
                    obtain ⟨g13, rfl⟩ := own_some hbk9.o13 (by omega)
                    have hw9 := (own_str hbk9.o13 (m := madeL rows p) rfl (i := q) (by rw [HML.out]; exact hql))
                    generalize (madeL rows p).getD q [] = r at *
                    have kst := fun n => Kd.C_string (P := Try.prog) (c := d2) Try.underlying41 Try.underlying5 Try.underlying9 (Kd.C_drewN hk2 n)
                    generalize strOfNums r = s at *
                    have HW1 := Aside0.mk (wr1 (i := q) hql (by have := HP.out; omega))
                    have HQ := Aside0.mk hql
                    have hwq : wrap64 ((rows.length : Int) + (q : Int)) = ((rows.length + q : Nat) : Int) := by have := H5.out; have := HP.out; unfold wrap64; omega
                    have hq1 : (q : Int) < (p : Int) := by omega
                    have hq2 : ((rows.length + q : Nat) : Int) < ((rows.length + p : Nat) : Int) := by omega
                    have hq3 : ((rows.length + q : Nat) : Int) < (rows.length : Int) + (p : Int) := by omega
                    have hq4 : rows.length + q < rows.length + p := by omega
                    clear hql hq hl2 hk2 hC9 hbk9 hgr
                    go_wp2_with (fail)
                    go_quiet (fail)
                    clear kst hw9 hx2 hwq
                    go_wp2
                    go_roundw
                    case rel => exact ⟨q + 1, HQ.out, by rw [HW1.out], ⟨pw_below_drewN HB9.out _⟩⟩
                    case measure => exact meas HW1.out HQ.out
                  · have hd7 : decide ((q : Int) < (p : Int)) = false := decide_eq_false (by omega)
                    have hd7' : decide (q < p) = false := decide_eq_false hql
                    clear hql hq
                    go_wp2
                    go_ret
                    exact ⟨rfl, below_then HBK7.out.below HBK7.out.base HB9.out⟩
            --ENDTAIL
        · have hd3 : decide ((i : Int) < (lost.length : Int)) = false := decide_eq_false (by omega)
          have hd3' : decide (i < lost.length) = false := decide_eq_false hil
          --TAIL2
          have HGP : Aside0 (gone.length ≤ p) := ⟨by rw [HGL.out]; exact hi2⟩
          have HLS := Aside0.mk (HGS.out.lost rfl (by have := H5.out; omega) HP.out HRS.out HRI.out HGP.out)
          obtain ⟨A11, c11, e11, hc11, hC11⟩ := Kd.R_reads (R_of_own HBK.out.o11)
          obtain rfl := e11
          rw [lensI_length] at hc11 hC11 HBK ⊢
          obtain rfl := HGL.out
          obtain ⟨_, hc16, hC16⟩ := Kd.R_reads' (R_of_own HBK.out.o16)
          have HC11 := Aside0.mk hC11
          have HH11 := Aside0.mk hc11
          have HC16 := Aside0.mk hC16
          have HH16 := Aside0.mk hc16
          have HNL : Aside0 ((rows ++ madeL rows p).length = rows.length + p) := ⟨by rw [List.length_append, HML.out]⟩
          have hwnp : wrap64 ((rows.length : Int) + (p : Int)) = (rows.length : Int) + (p : Int) := by have := H5.out; have := HP.out; unfold wrap64; omega
          clear hi hi2 hc11 hC11 hc16 hC16
          go_wp2_with (first
            | (go_at_call 16; (with_reducible refine (restore_back _ _ _ _ _ _ _ _ rows m8 m9 gone rows.length p _ ?r0 ?r1 HC11.out HH11.out ?r2 ?r3 HC16.out HH16.out HLS.out HGS.out.rng ?r4).mono ?_); (case r0 => exact HBK.out.r8.toC HBK.out.o8); (case r1 => exact own_le HBK.out.o8); (case r2 => exact HBK.out.r9.toC HBK.out.o9); (case r3 => exact Nat.le_refl _); (case r4 => have := HGP.out; have := HP.out; omega); rintro e w7 ⟨v7, hs1, hs2, b1, b2, rfl, hrr, hb⟩; obtain ⟨A7, c7, rfl, hc7, hC7⟩ := hrr.reads; rw [HNL.out] at hc7 hC7 ⊢; have HC7 := Aside0.mk hC7; have HBK7 := Aside0.mk (HBK.out.moved hb); clear hrr hc7 hC7 hb))
          clear hwnp
          go_loopw [19] (fun v19 wr => ∃ i : Nat, i ≤ rows.length ∧ v19 = .int .i64 (i : Int) ∧ Aside0 (Below w7.heap.size w7 wr)) (fun v19 _ => rows.length - (intOf v19).toNat)
          case atStart => exact ⟨0, Nat.zero_le _, rfl, ⟨Below.refl _ _⟩⟩
          case round =>
            obtain ⟨q, hq, rfl, HB9⟩ := hrel
            by_cases hql : q < rows.length
            · have hd6 : decide ((q : Int) < (rows.length : Int)) = true := decide_eq_true (by omega)
              have hd6' : decide (q < rows.length) = true := decide_eq_true hql
              have hC9 := Kd.C_below HC7.out HB9.out
              obtain ⟨ad, B2, d2, e2, hx2, hl2, hk2⟩ := at_L2 hC9 (q : Int) (by omega) (by omega)
              cases e2
              rw [rdL_nat] at hx2 hl2 hk2
              rw [Int.toNat_natCast] at hx2
              have hgr : (rows ++ madeL rows p).getD q [] = rowW (ws.getD q (0, 0)).1 (ws.getD q (0, 0)).2 := by rw [List.getD_eq_getElem?_getD, List.getElem?_append_left hql, ← List.getD_eq_getElem?_getD, HR.out q hql]
              rw [hgr] at hx2 hl2 hk2
              have hqw : q < ws.length := by have := HN.out; omega
              obtain ⟨ada, rfl, hwa0, hwb0⟩ := HW.out q hqw
              have HWA : Aside0 (InI (ws.getD q (0, 0)).1) := ⟨by rw [List.getD_eq_getElem?_getD, List.getElem?_eq_getElem hqw]; exact HWS.out _ (List.getElem_mem hqw)⟩
              have hwa := cell_below5 (below_then HBK7.out.below HBK7.out.base HB9.out) hwa0
              have hwb := cell_below5 (below_then HBK7.out.below HBK7.out.base HB9.out) hwb0
              generalize (ws.getD q (0, 0)).1 = wa at *
              generalize (ws.getD q (0, 0)).2 = wb at *
              have HW1 := Aside0.mk (wr1 (i := q) hql (by have := H5.out; omega))
              have HQ := Aside0.mk hql
              have hq1 : (q : Int) < (rows.length : Int) := by omega
              have hq2 : (q : Int) < ((rows.length + p : Nat) : Int) := by omega
              have hq3 : (q : Int) < (rows.length : Int) + (p : Int) := by omega
              have hq4 : (q : Int) < (ws.length : Int) := by omega
              clear hql hq hC9 hgr hwa0 hwb0
              go_wp2_with (fail)
              refine start_ (n := 12) (S := fun w' => Below wr.heap.size wr w') (ds := []) #[false, false, false, false, false, false, false, false, false, false, false, false] (by kernel_rfl) rfl rfl (below_drew1 (Below.refl _ _)) (fun hHeld => ?_)
              refine pure_ (i := 0) (N := some 98) (v := ?_) (a' := ?_) #[true, false, false, false, false, false, false, false, false, false, false, false] rfl rfl (by kernel_rfl) (fun _ _ _ h => h) (Or.inl ⟨by rfl, ?_⟩) ?_ ?_
              rotate_left
              · intro w'
                go_simp
                with_reducible rfl
              rotate_left
              · simp only [Act.put, List.setIfInBounds_toArray, List.set_cons_zero, List.set_cons_succ, i64_w, i32_w]
                rfl
              refine pure_ (i := 1) (N := some 99) (v := ?_) (a' := ?_) #[true, true, false, false, false, false, false, false, false, false, false, false] rfl rfl (by kernel_rfl) (fun _ _ _ h => h) (Or.inl ⟨by rfl, ?_⟩) ?_ ?_
              rotate_left
              · intro w'
                go_simp
                with_reducible rfl
              rotate_left
              · simp only [Act.put, List.setIfInBounds_toArray, List.set_cons_zero, List.set_cons_succ, i64_w, i32_w]
                rfl
              refine pure_ (i := 2) (N := some 100) (v := ?_) (a' := ?_) #[true, true, true, false, false, false, false, false, false, false, false, false] rfl rfl (by kernel_rfl) (fun _ _ _ h => h) (Or.inl ⟨by rfl, ?_⟩) ?_ ?_
              rotate_left
              · intro w'
                go_simp
                with_reducible rfl
              rotate_left
              · simp only [Act.put, List.setIfInBounds_toArray, List.set_cons_zero, List.set_cons_succ, i64_w, i32_w]
                rfl
              refine take_ (i := 3) (N := some 101) (v := ?_) (a' := ?_) #[true, true, true, true, false, false, false, false, false, false, false, false] rfl rfl (by kernel_rfl) (fun _ _ _ h => h) (Or.inl ⟨by rfl, ?_⟩) hHeld ?_ ?_
              rotate_left
              · intro w' hS
                have hx' := cell_below5 hS hx2
                have kst' := Kd.C_string (P := Try.prog) (c := d2) Try.underlying41 Try.underlying5 Try.underlying9 (Kd.C_below hk2 hS)
                have ha' := cell_below5 hS hwa
                have hb' : w'.cell? ⟨(ada.add (q * 2)).block, (ada.add (q * 2)).off + 1, none⟩ = some (.int .i64 wb) := by rw [pair_addr]; exact cell_below5 hS hwb
                go_simp
                with_reducible rfl
              rotate_left
              · simp only [Act.put, List.setIfInBounds_toArray, List.set_cons_zero, List.set_cons_succ, i64_w, i32_w]
                rfl
              refine take_ (i := 4) (N := some 102) (v := ?_) (a' := ?_) #[true, true, true, true, true, false, false, false, false, false, false, false] rfl rfl (by kernel_rfl) (fun _ _ _ h => h) (Or.inl ⟨by rfl, ?_⟩) hHeld ?_ ?_
              rotate_left
              · intro w' hS
                have hx' := cell_below5 hS hx2
                have kst' := Kd.C_string (P := Try.prog) (c := d2) Try.underlying41 Try.underlying5 Try.underlying9 (Kd.C_below hk2 hS)
                have ha' := cell_below5 hS hwa
                have hb' : w'.cell? ⟨(ada.add (q * 2)).block, (ada.add (q * 2)).off + 1, none⟩ = some (.int .i64 wb) := by rw [pair_addr]; exact cell_below5 hS hwb
                go_simp
                with_reducible rfl
              rotate_left
              · simp only [Act.put, List.setIfInBounds_toArray, List.set_cons_zero, List.set_cons_succ, i64_w, i32_w]
                rfl
              refine pure_ (i := 5) (N := some 103) (v := ?_) (a' := ?_) #[true, true, true, true, true, true, false, false, false, false, false, false] rfl rfl (by kernel_rfl) (fun _ _ _ h => h) (Or.inl ⟨by rfl, ?_⟩) ?_ ?_
              rotate_left
              · intro w'
                go_simp
                with_reducible rfl
              rotate_left
              · simp only [Act.put, List.setIfInBounds_toArray, List.set_cons_zero, List.set_cons_succ, i64_w, i32_w]
                rfl
              refine pure_ (i := 6) (N := some 104) (v := ?_) (a' := ?_) #[true, true, true, true, true, true, true, false, false, false, false, false] rfl rfl (by kernel_rfl) (fun _ _ _ h => h) (Or.inl ⟨by rfl, ?_⟩) ?_ ?_
              rotate_left
              · intro w'
                go_simp
                with_reducible rfl
              rotate_left
              · simp only [Act.put, List.setIfInBounds_toArray, List.set_cons_zero, List.set_cons_succ, i64_w, i32_w]
                rfl
              refine pure_ (i := 7) (N := some 105) (v := ?_) (a' := ?_) #[true, true, true, true, true, true, true, true, false, false, false, false] rfl rfl (by kernel_rfl) (fun _ _ _ h => h) (Or.inl ⟨by rfl, ?_⟩) ?_ ?_
              rotate_left
              · intro w'
                go_simp
                with_reducible rfl
              rotate_left
              · simp only [Act.put, List.setIfInBounds_toArray, List.set_cons_zero, List.set_cons_succ, i64_w, i32_w]
                rfl
              refine take_ (i := 8) (N := some 106) (v := ?_) (a' := ?_) #[true, true, true, true, true, true, true, true, true, false, false, false] rfl rfl (by kernel_rfl) (fun _ _ _ h => h) (Or.inl ⟨by rfl, ?_⟩) hHeld ?_ ?_
              rotate_left
              · intro w' hS
                have hx' := cell_below5 hS hx2
                have kst' := Kd.C_string (P := Try.prog) (c := d2) Try.underlying41 Try.underlying5 Try.underlying9 (Kd.C_below hk2 hS)
                have ha' := cell_below5 hS hwa
                have hb' : w'.cell? ⟨(ada.add (q * 2)).block, (ada.add (q * 2)).off + 1, none⟩ = some (.int .i64 wb) := by rw [pair_addr]; exact cell_below5 hS hwb
                go_simp
                with_reducible rfl
              rotate_left
              · simp only [Act.put, List.setIfInBounds_toArray, List.set_cons_zero, List.set_cons_succ, i64_w, i32_w]
                rfl
              refine one_ (i := 9) (N := some 107) #[true, true, true, true, true, true, true, true, true, true, false, false] rfl rfl (by kernel_rfl) (by decide) (fun K hK => ?_)
              refine goes_ Try.func17 (by kernel_rfl) rfl #[.agg #[.int .i64 wa, .int .i64 wb]] (by rfl) rfl rfl (by simp only [List.map_toArray, List.map_cons, List.map_nil]; rfl) ?_
              refine (row_calls wa wb HWA.out _).mono ?_
              rintro e w8 ⟨A8, c8, rfl, hr8, hb8⟩
              refine ⟨_, rfl, ?_⟩
              refine hK.out _ _ (below_step (below_drew1 (Below.refl _ _)) hb8) (fun hHeld => ?_)
              clear hK K
              refine norm_ (a' := ?_) ?_ ?_
              rotate_left
              · show Act.put _ (some 107) _ = _
                simp only [Act.put, List.setIfInBounds_toArray, List.set_cons_zero, List.set_cons_succ, i64_w, i32_w]
                rfl
              refine one_ (i := 10) (N := some 108) #[true, true, true, true, true, true, true, true, true, true, true, false] rfl rfl (by kernel_rfl) (by decide) (fun K hK => ?_)
              have kst8 := Kd.C_string (P := Try.prog) (c := c8) Try.underlying41 Try.underlying5 Try.underlying9 hr8.toC
              go_simp
              refine hK.out _ _ hHeld (fun hHeld => ?_)
              clear hK K
              refine pure_ (i := 11) (N := some 109) (v := ?_) (a' := ?_) #[true, true, true, true, true, true, true, true, true, true, true, true] rfl rfl (by kernel_rfl) (fun _ _ _ h => h) (Or.inl ⟨by rfl, ?_⟩) ?_ ?_
              rotate_left
              · intro w'
                go_simp
                with_reducible rfl
              rotate_left
              · simp only [Act.put, List.setIfInBounds_toArray, List.set_cons_zero, List.set_cons_succ, i64_w, i32_w]
                rfl
              refine done_ (by kernel_rfl) ?_
              have HB10 : Aside0 (Below w7.heap.size w7 w8) := ⟨below_step HB9.out hHeld⟩
              clear hHeld hx2 hl2 hk2 hwa hwb hr8 hb8
              go_wp2
              go_roundw
              case rel => exact ⟨q + 1, HQ.out, by rw [HW1.out], HB10⟩
              case measure => exact meas HW1.out HQ.out
            · have hd6 : decide ((q : Int) < (rows.length : Int)) = false := decide_eq_false (by omega)
              have hd6' : decide (q < rows.length) = false := decide_eq_false hql
              obtain rfl : q = rows.length := by omega
              clear hql hq
              go_wp2
              go_loopw [20] (fun v20 wr => ∃ i : Nat, i ≤ p ∧ v20 = .int .i64 (i : Int) ∧ Aside0 (Below w7.heap.size w7 wr)) (fun v20 _ => p - (intOf v20).toNat)
              case atStart => exact ⟨0, Nat.zero_le _, rfl, HB9⟩
              case round =>
                clear HB9
                obtain ⟨q, hq, rfl, HB9⟩ := hrel
                by_cases hql : q < p
                · have hd7 : decide ((q : Int) < (p : Int)) = true := decide_eq_true (by omega)
                  have hd7' : decide (q < p) = true := decide_eq_true hql
                  have hC9 := Kd.C_below HC7.out HB9.out
                  obtain ⟨ad, B2, d2, e2, hx2, hl2, hk2⟩ := at_L2 hC9 ((rows.length + q : Nat) : Int) (by omega) (by omega)
                  cases e2
                  rw [rdL_nat] at hx2 hl2 hk2
                  rw [Int.toNat_natCast] at hx2
                  have hgr : (rows ++ madeL rows p).getD (rows.length + q) [] = (madeL rows p).getD q [] := by rw [List.getD_eq_getElem?_getD, List.getElem?_append_right (by omega), ← List.getD_eq_getElem?_getD, Nat.add_sub_cancel_left]
                  rw [hgr] at hx2 hl2 hk2
                  have hbk9 := HBK7.out.moved HB9.out
                  obtain ⟨g13, rfl⟩ := own_some hbk9.o13 (by omega)
                  have hw9 := (own_str hbk9.o13 (m := madeL rows p) rfl (i := q) (by rw [HML.out]; exact hql))
                  generalize (madeL rows p).getD q [] = r at *
                  have kst := fun n => Kd.C_string (P := Try.prog) (c := d2) Try.underlying41 Try.underlying5 Try.underlying9 (Kd.C_drewN hk2 n)
                  generalize strOfNums r = s at *
                  have HW1 := Aside0.mk (wr1 (i := q) hql (by have := HP.out; omega))
                  have HQ := Aside0.mk hql
                  have hwq : wrap64 ((rows.length : Int) + (q : Int)) = ((rows.length + q : Nat) : Int) := by have := H5.out; have := HP.out; unfold wrap64; omega
                  have hq1 : (q : Int) < (p : Int) := by omega
                  have hq2 : ((rows.length + q : Nat) : Int) < ((rows.length + p : Nat) : Int) := by omega
                  have hq3 : ((rows.length + q : Nat) : Int) < (rows.length : Int) + (p : Int) := by omega
                  have hq4 : rows.length + q < rows.length + p := by omega
                  clear hql hq hl2 hk2 hC9 hbk9 hgr
                  go_wp2_with (fail)
                  go_quiet (fail)
                  clear kst hw9 hx2 hwq
                  go_wp2
                  go_roundw
                  case rel => exact ⟨q + 1, HQ.out, by rw [HW1.out], ⟨pw_below_drewN HB9.out _⟩⟩
                  case measure => exact meas HW1.out HQ.out
                · have hd7 : decide ((q : Int) < (p : Int)) = false := decide_eq_false (by omega)
                  have hd7' : decide (q < p) = false := decide_eq_false hql
                  clear hql hq
                  go_wp2
                  go_ret
                  exact ⟨rfl, below_then HBK7.out.below HBK7.out.base HB9.out⟩
          --ENDTAIL2
end Go.Proofs.Ytdhajlkiiphlfaa.Par
/-! ParityWide, walked -/
namespace Go.Proofs.Ytdhajlkiiphlfaa.Par
open Go.RowKit Go.Proofs.Ytdhajlkiiphlfaa.QBaseParityWide Go.Proofs.YtdhajlkiiphlfaaW.PrintWords Go.Proofs.YtdhajlkiiphlfaaW.PrintLast Go.Proofs.YtdhajlkiiphlfaaW.PrintMore Go.Proofs.Ytdhajlkiiphlfaa.Solve
set_option linter.unusedVariables false
set_option linter.unusedSimpArgs false
theorem cau_at {w : World} {A : Option Addr} {p n i : Nat} (h : Kd.C (Kd.slice 5 (Kd.int .u8)) w A p (cau p n)) (hi : i < p) : ∃ ad B c, A = some ad ∧ w.cell? (ad.add i) = some (.slice B n c) ∧ Kd.C (Kd.int .u8) w B n ((List.range n).map fun j => cE i j) := by
  obtain ⟨am, A3, c3, e3, hx3, hl3, hC3⟩ := at_L2 h (i : Int) (by omega) (by omega)
  rw [rowZ (cau_row hi), Int.toNat_natCast] at hx3
  rw [rowZ (cau_row hi)] at hC3
  rw [List.length_map, List.length_range] at hx3 hC3
  exact ⟨am, A3, c3, e3, hx3, hC3⟩
theorem cau_el {w : World} {B : Option Addr} {n i j : Nat} (h : Kd.C (Kd.int .u8) w B n ((List.range n).map fun j => cE i j)) (hj : j < n) : ∃ ae, B = some ae ∧ w.cell? (ae.add j) = some (.int .u8 (cE i j)) := by
  obtain ⟨ae, e4, hx4⟩ := Kd.at_int h (j : Int) (by omega) (by omega)
  rw [elZ (y := cE i j) (by rw [List.getElem?_map, List.getElem?_range hj]; rfl), Int.toNat_natCast] at hx4
  exact ⟨ae, e4, hx4⟩
def psum (rows : List (List Int)) (i x q : Nat) : Int := (part (cE i) rows (zeros (widthL rows)) q).getD x 0
theorem psum_zero (rows : List (List Int)) (i x : Nat) : psum rows i x 0 = 0 := zeros_getD _ _
theorem psum_end (rows : List (List Int)) (i x : Nat) : psum rows i x rows.length = (moreRow rows i).getD x 0 := rfl
theorem psum_in (rows : List (List Int)) (i x : Nat) {q : Nat} (hq : q ≤ 256) : In8 (psum rows i x q) := getD_in (part_in _ _ _ (zeros_in _) q (fun t ht => cE_in (by omega))) x
theorem psum_step (rows : List (List Int)) (i : Nat) {x : Nat} (q : Nat) (hx : x < widthL rows) : psum rows i x (q + 1) = if x < (rows.getD q []).length then xorZ (psum rows i x q) (mulZ (cE i q) ((rows.getD q []).getD x 0)) else psum rows i x q := by
  unfold psum
  rw [part, addAt_getD _ _ _ _ _ (by rw [part_length, zeros_length]; exact hx)]
  by_cases h : x < (rows.getD q []).length
  · rw [if_pos (by omega), if_pos h, Nat.sub_zero]
  · rw [if_neg (by omega), if_neg h]
theorem Bk.rowAt {w0 w : World} {v9 v11 v13 v16 : Value} {h8 h9 : List Hdr} {m8 m9 : List (List Int)} {ls : List Int} {want : List ByteArray} {gone : List Int} {ad : Addr} {q c : Nat} (h : Bk w0 w (.slice (some ad) q c) v9 v11 v13 v16 h8 h9 m8 m9 ls want gone) {i : Nat} (hi : i < q) (hq : q ≤ 200) :
    ∃ B d, w.cell? (ad.add i) = some (.slice B (m8.getD i []).length d) ∧ (m8.getD i []).length ≤ d ∧ Kd.C (Kd.int .u8) w B (m8.getD i []).length (m8.getD i []) := by
  obtain ⟨ad', B, d, e, hx, hl, hC⟩ := at_L2 (h.r8.toC h.o8) (i : Int) (by omega) (by omega)
  cases e
  rw [rdL_nat] at hx hl hC
  rw [Int.toNat_natCast] at hx
  exact ⟨B, d, hx, hl, hC⟩
theorem Bk.moreAt {w0 w : World} {v8 v11 v13 v16 : Value} {h8 h9 : List Hdr} {m8 : List (List Int)} {ls : List Int} {want : List ByteArray} {gone : List Int} {g p c : Nat} (h : Bk w0 w v8 (.slice (some ⟨g, 0, none⟩) p c) v11 v13 v16 h8 h9 m8 (madeL m8 p) ls want gone) {i : Nat} (hi : i < p) (hp : p ≤ 16) :
    ∃ B d, w.cell? ⟨g, i, none⟩ = some (.slice B (widthL m8) d) ∧ Kd.C (Kd.int .u8) w B (widthL m8) (moreRow m8 i) := by
  obtain ⟨B, d, h1, h2, h3⟩ := made_at (h.r9.toC h.o9) hi hp rfl
  exact ⟨B, d, h1, h3⟩
theorem widthL_small {rows : List (List Int)} {b : Nat} (h : ∀ r ∈ rows, r.length ≤ b) : widthL rows ≤ b := wideN_le (fun x hx => by obtain ⟨r, hr, rfl⟩ := List.mem_map.1 hx; exact h r hr)
theorem meas2 {n i j : Nat} {x : Int} (h : x = (j : Int)) (hl : i < n) (hj : i < j) : n - (intOf (.int .i64 x)).toNat < n - (intOf (.int .i64 (i : Int))).toNat := by subst h; simp only [intOf, Int.toNat_natCast]; omega
theorem next_x {x W : Nat} (hx : x < W) (hW : W ≤ 70000) : wrap64 (wrap64 ((x : Int) + 1) + wrap64 ((W : Int) / 500)) = ((x + 1 + W / 500 : Nat) : Int) ∧ x + 1 + W / 500 ≤ 71000 := by
  have e2 : wrap64 ((W : Int) / 500) = ((W / 500 : Nat) : Int) := by unfold wrap64; omega
  rw [e2]
  clear e2
  have h3 : W / 500 ≤ 140 := by omega
  generalize W / 500 = d at *
  refine ⟨?_, by omega⟩
  have e : wrap64 ((x : Int) + 1) = ((x + 1 : Nat) : Int) := by unfold wrap64; omega
  rw [e]
  unfold wrap64; omega
theorem Bk.start (w1 : World) : Bk w1 w1 (.slice none 0 0) (.slice none 0 0) (.slice none 0 0) (.slice none 0 0) (.slice none 0 0) [] [] [] [] [] [] [] := ⟨Below.refl _ _, ⟨rfl, .inl ⟨rfl, rfl⟩⟩, ⟨rfl, .inl ⟨rfl, rfl⟩⟩, Rows5.nil _, Rows5.nil _, ⟨rfl, .inl ⟨rfl, rfl⟩⟩, ⟨rfl, .inl ⟨rfl, rfl⟩⟩, ⟨rfl, .inl ⟨rfl, rfl⟩⟩, .inl rfl, .inl rfl⟩
theorem lensR (rows : List (List Int)) : (lensI rows).length = rows.length := lensI_length rows
set_option maxHeartbeats 800000 in
set_option maxRecDepth 100000 in
theorem wide_calls (A0 A2 : Option Addr) (c0 c2 : Nat) (ws : List (Int × Int)) (a : Int) (lost : List Int) (w : World) (hW : WC w A0 ws) (hws : ∀ x ∈ ws, InI x.1) (hnn : ws.length ≤ 140737488355328) (ha : InI a)
    (hr2 : Kd.C (Kd.int .i64) w A2 lost.length lost) (hlo : lost.length ≤ 140737488355328) (hlin : ∀ y ∈ lost, InI y) :
    Calls Try.prog 7 #[.slice A0 ws.length c0, .int .i64 a, .slice A2 lost.length c2] w fun e w' => e = .returned (.bool true) ∧ Below w.heap.size w w' := by
  obtain ⟨p0, hp0, hpf⟩ := pick_f a 4 (by decide) ha.1 ha.2
  have HPF : Aside0 (dailieslaw05_pick.f a 4 = some (p0 : Int)) := ⟨hpf⟩
  obtain ⟨p, hpp⟩ : ∃ p, p = p0 + 1 := ⟨_, rfl⟩
  have hp1 : wrap64 (1 + (p0 : Int)) = (p : Int) := by unfold wrap64; omega
  have HP1 := Aside0.mk (show 1 ≤ p by omega)
  have HP := Aside0.mk (show p ≤ 16 by omega)
  have HW0 := Aside0.mk hW
  have HWS := Aside0.mk hws
  have HNN := Aside0.mk hnn
  have HR20 := Aside0.mk hr2
  have HLO := Aside0.mk hlo
  have HLIN := Aside0.mk hlin
  clear hW hws hnn ha hr2 hlo hlin hpf hp0 hpp
  go_enter Try.func7, Try.ntmps7
  go_wp2_with (first
    | (go_at_call 9; (with_reducible refine (awake_calls _).mono ?_); rintro e w1 ⟨rfl, hb⟩; have HB1 := Aside0.mk hb; have HR2 := Aside0.mk (Kd.C_below HR20.out hb); have HW := Aside0.mk (HW0.out.below hb); clear hb)
    | (go_at_call 14; (with_reducible refine (dailieslaw05_pick.calls a 4 (p0 : Int) _ HPF.out).mono ?_); rintro e w4 ⟨rfl, ⟨nd, rfl⟩⟩))
  rw [hp1]
  clear HW0 HR20 HPF hp1
  have HBK : Aside0 (Bk w1 (w1.drewN nd) (.slice none 0 0) (.slice none 0 0) (.slice none 0 0) (.slice none 0 0) (.slice none 0 0) [] [] [] [] [] [] []) := ⟨(Bk.start w1).drewN nd⟩
  generalize w1.drewN nd = w4 at *
  go_loopw [8, 9, 10, 11] (fun v8 v9 v10 v11 wr => ∃ (i : Nat) (x8 x9 : Value) (h8 : List Hdr), i ≤ ws.length ∧ i ≤ 5 ∧ x8 = v8 ∧ x9 = v9 ∧ v10 = .int .i64 ((widthL (rowsW ws i) : Nat) : Int) ∧ v11 = .int .i64 (i : Int) ∧ Aside0 (Bk w1 wr x8 (.slice none 0 0) x9 (.slice none 0 0) (.slice none 0 0) h8 [] (rowsW ws i) [] (lensI (rowsW ws i)) [] [])) (fun _ _ _ v11 _ => ws.length - (intOf v11).toNat)
  case atStart => exact ⟨0, _, _, _, Nat.zero_le _, Nat.zero_le _, rfl, rfl, rfl, rfl, HBK⟩
  case round =>
    clear HBK
    obtain ⟨i, x8, x9, h8, hi, hi5, rfl, rfl, rfl, rfl, HBK⟩ := hrel
    by_cases hlt : i < ws.length
    · have hd1 : decide ((i : Int) < (ws.length : Int)) = true := decide_eq_true (by omega)
      have hd1' : decide (i < ws.length) = true := decide_eq_true hlt
      by_cases hx5 : i < 5
      · --{ 1
        have hd2 : decide ((i : Int) < 5) = true := decide_eq_true (by omega)
        have hd2' : decide (i < 5) = true := decide_eq_true hx5
        obtain ⟨ada, rfl, hwa0, hwb0⟩ := HW.out i hlt
        have hwa := cell_below5 HBK.out.below hwa0
        have hwb := cell_below5 HBK.out.below hwb0
        rw [← pair_addr] at hwb
        have HWA : Aside0 (InI (ws.getD i (0, 0)).1) := ⟨by rw [List.getD_eq_getElem?_getD, List.getElem?_eq_getElem hlt]; exact HWS.out _ (List.getElem_mem hlt)⟩
        have HTK := Aside0.mk (rowsW_snoc ws hlt)
        generalize (ws.getD i (0, 0)).1 = wa at *
        generalize (ws.getD i (0, 0)).2 = wb at *
        have HRS := Aside0.mk (rowW_spec wb HWA.out).2
        have HLEN := Aside0.mk (rowsW_length ws hi)
        have HH8 : Aside0 (h8.length = i) := ⟨by rw [HBK.out.r8.len, HLEN.out]⟩
        have HLI : Aside0 ((lensI (rowsW ws i)).length = i) := ⟨by rw [lensI_length, HLEN.out]⟩
        obtain ⟨mx, hmx, hmx2⟩ := max_letter (widthL (rowsW ws i)) (rowW wa wb).length
        have HMX := Aside0.mk hmx2
        have HW1 := Aside0.mk (wr1 (i := i) hlt HNN.out)
        have HLT := Aside0.mk hlt
        have HX5 := Aside0.mk hx5
        have hli : (i : Int) < (ws.length : Int) := by omega
        have hii : (i : Int) < ((i + 1 : Nat) : Int) := by omega
        have hii2 : (i : Int) < (i : Int) + 1 := by omega
        clear hlt hx5 hi hi5 hmx2 hwa0 hwb0
        go_wp2_with (first
          | (go_at_call 17; (with_reducible refine (row_calls wa wb HWA.out _).mono ?_); rintro e w8 ⟨A8, c8, rfl, hr8, hb8⟩; have HBK8 := Aside0.mk (HBK.out.moved (below_then (Below.refl _ _) (Nat.le_refl _) hb8)); have HR8 := Aside0.mk hr8; clear hb8 hr8)
          | ((with_reducible refine gate_builtin (b := .append) (xs := #[.tmp 34, .tmp 40]) rfl ?_); at_builtin; refine print_append_of (w0 := w1) hdV w1.heap.size rfl (.tmp 34) (.tmp 40) 35 41 (.slice none 0 0) 24 rfl Try.underlying35 info41' rfl (by decide) x8 h8 (A8, (rowW wa wb).length, c8) ?q1 ?q2 ?q3 HBK8.out.o8 HBK8.out.below HBK8.out.base ?q4 ?_; (case q3 => exact rfl); (case q4 => have := HH8.out; have := HX5.out; omega); (case q1 => rfl); (case q2 => rfl); intro y8 w9 hown hb hg hat; have hbk9 := HBK8.out.app8 hown hb hg hat HR8.out; obtain ⟨Ag, cg, eg⟩ := own_form hbk9.o8; rw [List.length_append, HH8.out] at eg; obtain rfl : y8 = .slice Ag (i + 1) cg := eg; obtain ⟨g8, rfl⟩ := own_some hbk9.o8 (Nat.succ_pos _); have HBK9 := Aside0.mk hbk9; obtain ⟨B9, d9, hx9⟩ := hbk9.last8 (by rw [HLEN.out]; exact Nat.lt_succ_self _); rw [HLEN.out, add_plain] at hx9; clear hown hb hg hat hbk9)
          | ((with_reducible refine gate_builtin (b := .append) (xs := #[.tmp 42, .tmp 48]) rfl ?_); at_builtin; refine print_append_num (w0 := w1) w1.heap.size rfl (.tmp 42) (.tmp 48) 30 3 .i64 8 rfl Try.underlying30 info3 (by decide) x9 (lensI (rowsW ws i)) ((rowW wa wb).length : Int) ?q1 ?q2 HBK9.out.o11 HBK9.out.below HBK9.out.base ?q4 ?_; (case q1 => rfl); (case q2 => rfl); (case q4 => have := HLI.out; have := HX5.out; omega); intro y9 w10 hown hb hg hat; have hbk10 := HBK9.out.app11 hown hb hg hat; obtain ⟨B10, d10, hx10⟩ := hbk10.last8 (by rw [HLEN.out]; exact Nat.lt_succ_self _); rw [HLEN.out, add_plain] at hx10; have HBK10 := Aside0.mk hbk10; clear hown hb hg hat hbk10))
        clear hwa hwb hx9 hx10
        go_roundw
        case rel => exact ⟨i + 1, _, _, _, HLT.out, HX5.out, rfl, rfl, by rw [HTK.out, widthL_snoc, ← HMX.out], by rw [HW1.out], ⟨by rw [HTK.out, lensI_snoc]; exact HBK10.out⟩⟩
        case measure => exact meas HW1.out HLT.out
        --}
      · have hd2 : decide ((i : Int) < 5) = false := decide_eq_false (by omega)
        have hd2' : decide (i < 5) = false := decide_eq_false hx5
        obtain ⟨rows, hrows⟩ : ∃ rows, rows = rowsW ws i := ⟨_, rfl⟩
        rw [← hrows] at HBK ⊢
        have HRL : Aside0 (rows.length = i) := ⟨by rw [hrows, rowsW_length ws hi]⟩
        have HN : Aside0 (rows.length ≤ ws.length) := ⟨by rw [HRL.out]; exact hi⟩
        have H5 : Aside0 (rows.length ≤ 5) := ⟨by rw [HRL.out]; exact hi5⟩
        have HIN : Aside0 (∀ r ∈ rows, r.length ≤ 70000 ∧ ∀ y ∈ r, In8 y) := ⟨by rw [hrows]; exact rowsW_mem HWS.out⟩
        have HGET : Aside0 (∀ q, q < rows.length → rows.getD q [] = rowW (ws.getD q (0, 0)).1 (ws.getD q (0, 0)).2) := ⟨fun q hq => by rw [HRL.out] at hq; rw [hrows]; exact rowsW_get ws hi hq⟩
        have HRI : Aside0 (∀ r ∈ rows, ∀ y ∈ r, In8 y) := ⟨fun r hr => (HIN.out r hr).2⟩
        have HFIT := Aside0.mk (rowsFit_iff.2 (fun r hr => by have := (HIN.out r hr).1; omega : ∀ r ∈ rows, r.length ≤ 16777216))
        have HWL := Aside0.mk (widthL_small (fun r hr => (HIN.out r hr).1 : ∀ r ∈ rows, r.length ≤ 70000))
        have HML := Aside0.mk (show (madeL rows p).length = p by simp [madeL])
        obtain ⟨A8, c8, e8⟩ := own_form HBK.out.o8
        rw [HBK.out.r8.len] at e8
        obtain rfl := e8
        obtain rfl := HRL.out
        clear hrows hi hi5 hx5 hlt
        have hpp : 0 < p := HP1.out
        by_cases h0 : rows.length = 0
        · --{ 2
          have hd3 : ((rows.length : Int) == 0) = true := by rw [h0]; rfl
          have HZ : Aside0 (widthL rows = 0) := ⟨by rw [List.eq_nil_of_length_eq_zero h0]; rfl⟩
          clear h0
          go_wp2_with (first
            | (go_at_call 15; (with_reducible refine (make_ok _ _ rows p _ ?r0 ?r1 ?r2 HP.out HRI.out).mono ?_); (case r0 => exact HBK.out.r8.toC HBK.out.o8); (case r1 => exact own_le HBK.out.o8); (case r2 => have := H5.out; omega); rintro e w5 hmk; unfold MakePost at hmk; rw [if_pos HFIT.out] at hmk; obtain ⟨g, b, rfl, hcu, hb⟩ := hmk; obtain ⟨k9, hk9, hbk5⟩ := HBK.out.made hcu HP.out hb; have HBK5 := Aside0.mk hbk5; obtain ⟨B5, d5, hm0, _⟩ := hbk5.moreAt (i := 0) HP1.out HP.out; rw [HZ.out] at hm0; clear hcu hb hk9 hbk5))
          all_goals (go_ret; exact ⟨rfl, below_step HB1.out HBK5.out.below⟩)
          --}
        · --{ 3
          have hd3 : ((rows.length : Int) == 0) = false := by rw [beq_eq_false_iff_ne]; omega
          have H0 := Aside0.mk (show 0 < rows.length by omega)
          have HCF : Aside0 (field_Cauchy.f 80000 (p : Int) (rows.length : Int) = some (cau p rows.length, 0)) := ⟨cauchy_ok HP1.out (by omega) (by have := HP.out; have := H5.out; omega) (Nat.le_refl _)⟩
          have HCL := Aside0.mk (show (cau p rows.length).length = p by simp [cau])
          obtain ⟨ad8, rfl⟩ : ∃ ad, A8 = some ad := by obtain ⟨g8, e⟩ := own_some HBK.out.o8 (by omega); exact ⟨_, e⟩
          go_wp2_with (first
            | (go_at_call 15; (with_reducible refine (make_ok _ _ rows p _ ?r0 ?r1 ?r2 HP.out HRI.out).mono ?_); (case r0 => exact HBK.out.r8.toC HBK.out.o8); (case r1 => exact own_le HBK.out.o8); (case r2 => have := H5.out; omega); rintro e w5 hmk; unfold MakePost at hmk; rw [if_pos HFIT.out] at hmk; obtain ⟨g, b, rfl, hcu, hb⟩ := hmk; obtain ⟨k9, hk9, hbk5⟩ := HBK.out.made hcu HP.out hb; have HBK5 := Aside0.mk hbk5; clear hcu hb hk9 hbk5)
            | (go_at_call 18; (with_reducible refine (field_Cauchy.calls 80000 (p : Int) (rows.length : Int) (cau p rows.length) 0 _ HCF.out).mono ?_); rintro e w6 ⟨v6, rfl, hs, hb⟩; obtain ⟨Am, cm, rfl, hcm, hCm⟩ := Kd.S_reads hs; rw [HCL.out] at hcm hCm ⊢; have HCM := Aside0.mk hCm; have HBK6 := Aside0.mk (HBK5.out.moved hb); clear hs hb hcm hCm))
          clear hd3 h0
          go_loopw [16] (fun v16 wr => ∃ i : Nat, i ≤ p ∧ v16 = .int .i64 (i : Int) ∧ Aside0 (Below w6.heap.size w6 wr)) (fun v16 _ => p - (intOf v16).toNat)
          case atStart => exact ⟨0, Nat.zero_le _, rfl, ⟨Below.refl _ _⟩⟩
          case round =>
            obtain ⟨i, hi, rfl, HB⟩ := hrel
            by_cases hip : i < p
            · have hd4 : decide ((i : Int) < (p : Int)) = true := decide_eq_true (by omega)
              have hd4' : decide (i < p) = true := decide_eq_true hip
              obtain ⟨Ba, da, xa, Ca⟩ := HBK6.out.moreAt hip HP.out
              obtain ⟨am, Bb, db, rfl, xb, Cb⟩ := cau_at HCM.out hip
              have HXa := Aside0.mk xa
              have HXb := Aside0.mk xb
              have HCa := Aside0.mk Ca
              have HCb := Aside0.mk Cb
              have HIP := Aside0.mk hip
              have HWI := Aside0.mk (wr1 (i := i) hip (by have := HP.out; omega))
              have ya := cell_below5 HB.out xa
              have yb := cell_below5 HB.out xb
              have hip' : (i : Int) < (p : Int) := by omega
              clear hip hi Ca Cb xa xb
              go_wp2
              clear ya yb
              go_loopw [17] (fun v17 wr => ∃ x : Nat, x ≤ 71000 ∧ v17 = .int .i64 (x : Int) ∧ Aside0 (Below w6.heap.size w6 wr)) (fun v17 _ => widthL rows - (intOf v17).toNat)
              case atStart => exact ⟨0, Nat.zero_le _, rfl, HB⟩
              case round =>
                clear HB
                obtain ⟨x, hx, rfl, HB⟩ := hrel
                by_cases hxw : x < widthL rows
                · have hd5 : decide ((x : Int) < (widthL rows : Int)) = true := decide_eq_true (by omega)
                  have hd5' : decide (x < widthL rows) = true := decide_eq_true hxw
                  have HXW := Aside0.mk hxw
                  clear hxw hx
                  obtain ⟨wo, hwo⟩ : ∃ wo, wo = wr := ⟨_, rfl⟩
                  subst hwo
                  go_wp2
                  go_loopw [18, 19] (fun v18 v19 wr => ∃ q : Nat, q ≤ rows.length ∧ v18 = .int .u8 (psum rows i x q) ∧ v19 = .int .i64 (q : Int) ∧ Aside0 (Below w6.heap.size w6 wr)) (fun _ v19 _ => rows.length - (intOf v19).toNat)
                  case atStart => exact ⟨0, Nat.zero_le _, by rw [psum_zero], rfl, HB⟩
                  case round =>
                    clear HB
                    obtain ⟨q, hq, rfl, rfl, HB⟩ := hrel
                    have hbk := HBK6.out.moved HB.out
                    by_cases hql : q < rows.length
                    · have hd6 : decide ((q : Int) < (rows.length : Int)) = true := decide_eq_true (by omega)
                      have hd6' : decide (q < rows.length) = true := decide_eq_true hql
                      obtain ⟨Br, dr, xr, lr, Cr⟩ := hbk.rowAt hql (by have := H5.out; omega)
                      have hrin : ∀ y ∈ rows.getD q [], In8 y := HRI.out _ (getD_mem hql)
                      have HST := Aside0.mk (psum_step rows i q HXW.out)
                      have hpin := psum_in rows i x (q := q) (by have := H5.out; omega)
                      have hci := cE_in (i := i) (j := q) (by have := H5.out; omega)
                      obtain ⟨ec, rfl, zc⟩ := cau_el (Kd.C_below HCb.out HB.out) hql
                      have xb := cell_below5 HB.out HXb.out
                      have HQL := Aside0.mk hql
                      have HWQ := Aside0.mk (wr1 (i := q) hql (by have := H5.out; omega))
                      have hqi : (q : Int) < (rows.length : Int) := by omega
                      generalize rows.getD q [] = r at *
                      by_cases hxr : x < r.length
                      · --{ 4
                        have hd7 : decide ((x : Int) < (r.length : Int)) = true := decide_eq_true (by omega)
                        have hd7' : decide (x < r.length) = true := decide_eq_true hxr
                        obtain ⟨er, rfl, zr⟩ := Kd.at_int Cr (x : Int) (by omega) (by omega)
                        rw [Int.toNat_natCast, rd_nat] at zr
                        have hv8 := getD_in hrin x
                        have HS2 : Aside0 (psum rows i x (q + 1) = xorZ (psum rows i x q) (mulZ (cE i q) (r.getD x 0))) := ⟨by rw [HST.out, if_pos hxr]⟩
                        generalize r.getD x 0 = v at *
                        have HMU : Aside0 (field_Mul.f 9 (cE i q) v = some (mulZ (cE i q) v)) := ⟨Mul_z hci hv8 (by decide)⟩
                        have hxx := xor_u8 hpin (mulZ_in (b := v) hci)
                        have hxi : (x : Int) < (r.length : Int) := by omega
                        generalize cE i q = c at *
                        generalize psum rows i x q = s at *
                        clear hxr hql hq hbk Cr hrin lr hpin hci hv8 HST
                        go_wp2
                        go_quiet (first | (go_at_call 19; (with_reducible refine (field_Mul.calls 9 c v _ _ HMU.out).mono ?_); rintro e w' ⟨rfl, ⟨nd3, rfl⟩⟩; exact ⟨rfl, _, World.drewN_drewN _ _ _⟩))
                        clear xr zr xb zc hxx
                        go_wp2
                        go_roundw
                        case rel => exact ⟨q + 1, HQL.out, by rw [HS2.out], by rw [HWQ.out], ⟨pw_below_drewN HB.out _⟩⟩
                        case measure => exact meas HWQ.out HQL.out
                        --}
                      · --{ 5
                        have hd7 : decide ((x : Int) < (r.length : Int)) = false := decide_eq_false (by omega)
                        have hd7' : decide (x < r.length) = false := decide_eq_false hxr
                        have HS2 : Aside0 (psum rows i x (q + 1) = psum rows i x q) := ⟨by rw [HST.out, if_neg hxr]⟩
                        clear hxr hql hq hbk Cr hrin lr hpin hci zc xb HST
                        go_wp2
                        clear xr
                        go_roundw
                        case rel => exact ⟨q + 1, HQL.out, by rw [HS2.out], by rw [HWQ.out], HB⟩
                        case measure => exact meas HWQ.out HQL.out
                        --}
                    · --{ 6
                      have hd6 : decide ((q : Int) < (rows.length : Int)) = false := decide_eq_false (by omega)
                      have hd6' : decide (q < rows.length) = false := decide_eq_false hql
                      obtain rfl : q = rows.length := by omega
                      have xa := cell_below5 HB.out HXa.out
                      obtain ⟨ea, rfl, za⟩ := Kd.at_int (Kd.C_below HCa.out HB.out) (x : Int) (by omega) (by have := HXW.out; omega)
                      rw [Int.toNat_natCast, rd_nat] at za
                      have HNX := Aside0.mk (next_x HXW.out HWL.out)
                      have hxi : (x : Int) < (widthL rows : Int) := by have := HXW.out; omega
                      have hpe : psum rows i x rows.length = (moreRow rows i).getD x 0 := psum_end _ _ _
                      rw [← hpe] at za
                      generalize psum rows i x rows.length = s at *
                      clear hql hq hbk hpe
                      go_wp2
                      exact ⟨⟨x + 1 + widthL rows / 500, HNX.out.2, by rw [HNX.out.1], HB⟩, meas2 HNX.out.1 HXW.out (by omega)⟩
                      --}
                · --{ 7
                  have hd5 : decide ((x : Int) < (widthL rows : Int)) = false := decide_eq_false (by omega)
                  have hd5' : decide (x < widthL rows) = false := decide_eq_false hxw
                  clear hxw hx
                  go_wp2
                  go_roundw
                  case rel => exact ⟨i + 1, HIP.out, by rw [HWI.out], HB⟩
                  case measure => exact meas HWI.out HIP.out
                  --}
            · --{ 8
              have hd4 : decide ((i : Int) < (p : Int)) = false := decide_eq_false (by omega)
              have hd4' : decide (i < p) = false := decide_eq_false hip
              clear hip hi
              have HBK7 := Aside0.mk (HBK6.out.moved HB.out)
              go_wp2_with (first
                | (go_at_call 20; (with_reducible refine (comes_calls w1 _ _ _ _ _ _ g p _ _ ws rows lost _ _ HW.out HWS.out HN.out HNN.out HGET.out H0.out H5.out HIN.out HP1.out HP.out HR2.out HLO.out HLIN.out HBK7.out).mono ?_); rintro e w8 ⟨rfl, hb⟩; have HB8 := Aside0.mk hb; clear hb))
              go_ret
              exact ⟨rfl, below_step HB1.out HB8.out⟩
              --}
          --}
    · have hd1 : decide ((i : Int) < (ws.length : Int)) = false := decide_eq_false (by omega)
      have hd1' : decide (i < ws.length) = false := decide_eq_false hlt
      obtain ⟨rows, hrows⟩ : ∃ rows, rows = rowsW ws i := ⟨_, rfl⟩
      rw [← hrows] at HBK ⊢
      have HRL : Aside0 (rows.length = i) := ⟨by rw [hrows, rowsW_length ws hi]⟩
      have HN : Aside0 (rows.length ≤ ws.length) := ⟨by rw [HRL.out]; exact hi⟩
      have H5 : Aside0 (rows.length ≤ 5) := ⟨by rw [HRL.out]; exact hi5⟩
      have HIN : Aside0 (∀ r ∈ rows, r.length ≤ 70000 ∧ ∀ y ∈ r, In8 y) := ⟨by rw [hrows]; exact rowsW_mem HWS.out⟩
      have HGET : Aside0 (∀ q, q < rows.length → rows.getD q [] = rowW (ws.getD q (0, 0)).1 (ws.getD q (0, 0)).2) := ⟨fun q hq => by rw [HRL.out] at hq; rw [hrows]; exact rowsW_get ws hi hq⟩
      have HRI : Aside0 (∀ r ∈ rows, ∀ y ∈ r, In8 y) := ⟨fun r hr => (HIN.out r hr).2⟩
      have HFIT := Aside0.mk (rowsFit_iff.2 (fun r hr => by have := (HIN.out r hr).1; omega : ∀ r ∈ rows, r.length ≤ 16777216))
      have HWL := Aside0.mk (widthL_small (fun r hr => (HIN.out r hr).1 : ∀ r ∈ rows, r.length ≤ 70000))
      have HML := Aside0.mk (show (madeL rows p).length = p by simp [madeL])
      obtain ⟨A8, c8, e8⟩ := own_form HBK.out.o8
      rw [HBK.out.r8.len] at e8
      obtain rfl := e8
      obtain rfl := HRL.out
      clear hrows hi hi5 hlt
      have hpp : 0 < p := HP1.out
      by_cases h0 : rows.length = 0
      · --{ 2
        have hd3 : ((rows.length : Int) == 0) = true := by rw [h0]; rfl
        have HZ : Aside0 (widthL rows = 0) := ⟨by rw [List.eq_nil_of_length_eq_zero h0]; rfl⟩
        clear h0
        go_wp2_with (first
          | (go_at_call 15; (with_reducible refine (make_ok _ _ rows p _ ?r0 ?r1 ?r2 HP.out HRI.out).mono ?_); (case r0 => exact HBK.out.r8.toC HBK.out.o8); (case r1 => exact own_le HBK.out.o8); (case r2 => have := H5.out; omega); rintro e w5 hmk; unfold MakePost at hmk; rw [if_pos HFIT.out] at hmk; obtain ⟨g, b, rfl, hcu, hb⟩ := hmk; obtain ⟨k9, hk9, hbk5⟩ := HBK.out.made hcu HP.out hb; have HBK5 := Aside0.mk hbk5; obtain ⟨B5, d5, hm0, _⟩ := hbk5.moreAt (i := 0) HP1.out HP.out; rw [HZ.out] at hm0; clear hcu hb hk9 hbk5))
        all_goals (go_ret; exact ⟨rfl, below_step HB1.out HBK5.out.below⟩)
        --}
      · --{ 3
        have hd3 : ((rows.length : Int) == 0) = false := by rw [beq_eq_false_iff_ne]; omega
        have H0 := Aside0.mk (show 0 < rows.length by omega)
        have HCF : Aside0 (field_Cauchy.f 80000 (p : Int) (rows.length : Int) = some (cau p rows.length, 0)) := ⟨cauchy_ok HP1.out (by omega) (by have := HP.out; have := H5.out; omega) (Nat.le_refl _)⟩
        have HCL := Aside0.mk (show (cau p rows.length).length = p by simp [cau])
        obtain ⟨ad8, rfl⟩ : ∃ ad, A8 = some ad := by obtain ⟨g8, e⟩ := own_some HBK.out.o8 (by omega); exact ⟨_, e⟩
        go_wp2_with (first
          | (go_at_call 15; (with_reducible refine (make_ok _ _ rows p _ ?r0 ?r1 ?r2 HP.out HRI.out).mono ?_); (case r0 => exact HBK.out.r8.toC HBK.out.o8); (case r1 => exact own_le HBK.out.o8); (case r2 => have := H5.out; omega); rintro e w5 hmk; unfold MakePost at hmk; rw [if_pos HFIT.out] at hmk; obtain ⟨g, b, rfl, hcu, hb⟩ := hmk; obtain ⟨k9, hk9, hbk5⟩ := HBK.out.made hcu HP.out hb; have HBK5 := Aside0.mk hbk5; clear hcu hb hk9 hbk5)
          | (go_at_call 18; (with_reducible refine (field_Cauchy.calls 80000 (p : Int) (rows.length : Int) (cau p rows.length) 0 _ HCF.out).mono ?_); rintro e w6 ⟨v6, rfl, hs, hb⟩; obtain ⟨Am, cm, rfl, hcm, hCm⟩ := Kd.S_reads hs; rw [HCL.out] at hcm hCm ⊢; have HCM := Aside0.mk hCm; have HBK6 := Aside0.mk (HBK5.out.moved hb); clear hs hb hcm hCm))
        clear hd3 h0
        go_loopw [16] (fun v16 wr => ∃ i : Nat, i ≤ p ∧ v16 = .int .i64 (i : Int) ∧ Aside0 (Below w6.heap.size w6 wr)) (fun v16 _ => p - (intOf v16).toNat)
        case atStart => exact ⟨0, Nat.zero_le _, rfl, ⟨Below.refl _ _⟩⟩
        case round =>
          obtain ⟨i, hi, rfl, HB⟩ := hrel
          by_cases hip : i < p
          · have hd4 : decide ((i : Int) < (p : Int)) = true := decide_eq_true (by omega)
            have hd4' : decide (i < p) = true := decide_eq_true hip
            obtain ⟨Ba, da, xa, Ca⟩ := HBK6.out.moreAt hip HP.out
            obtain ⟨am, Bb, db, rfl, xb, Cb⟩ := cau_at HCM.out hip
            have HXa := Aside0.mk xa
            have HXb := Aside0.mk xb
            have HCa := Aside0.mk Ca
            have HCb := Aside0.mk Cb
            have HIP := Aside0.mk hip
            have HWI := Aside0.mk (wr1 (i := i) hip (by have := HP.out; omega))
            have ya := cell_below5 HB.out xa
            have yb := cell_below5 HB.out xb
            have hip' : (i : Int) < (p : Int) := by omega
            clear hip hi Ca Cb xa xb
            go_wp2
            clear ya yb
            go_loopw [17] (fun v17 wr => ∃ x : Nat, x ≤ 71000 ∧ v17 = .int .i64 (x : Int) ∧ Aside0 (Below w6.heap.size w6 wr)) (fun v17 _ => widthL rows - (intOf v17).toNat)
            case atStart => exact ⟨0, Nat.zero_le _, rfl, HB⟩
            case round =>
              clear HB
              obtain ⟨x, hx, rfl, HB⟩ := hrel
              by_cases hxw : x < widthL rows
              · have hd5 : decide ((x : Int) < (widthL rows : Int)) = true := decide_eq_true (by omega)
                have hd5' : decide (x < widthL rows) = true := decide_eq_true hxw
                have HXW := Aside0.mk hxw
                clear hxw hx
                obtain ⟨wo, hwo⟩ : ∃ wo, wo = wr := ⟨_, rfl⟩
                subst hwo
                go_wp2
                go_loopw [18, 19] (fun v18 v19 wr => ∃ q : Nat, q ≤ rows.length ∧ v18 = .int .u8 (psum rows i x q) ∧ v19 = .int .i64 (q : Int) ∧ Aside0 (Below w6.heap.size w6 wr)) (fun _ v19 _ => rows.length - (intOf v19).toNat)
                case atStart => exact ⟨0, Nat.zero_le _, by rw [psum_zero], rfl, HB⟩
                case round =>
                  clear HB
                  obtain ⟨q, hq, rfl, rfl, HB⟩ := hrel
                  have hbk := HBK6.out.moved HB.out
                  by_cases hql : q < rows.length
                  · have hd6 : decide ((q : Int) < (rows.length : Int)) = true := decide_eq_true (by omega)
                    have hd6' : decide (q < rows.length) = true := decide_eq_true hql
                    obtain ⟨Br, dr, xr, lr, Cr⟩ := hbk.rowAt hql (by have := H5.out; omega)
                    have hrin : ∀ y ∈ rows.getD q [], In8 y := HRI.out _ (getD_mem hql)
                    have HST := Aside0.mk (psum_step rows i q HXW.out)
                    have hpin := psum_in rows i x (q := q) (by have := H5.out; omega)
                    have hci := cE_in (i := i) (j := q) (by have := H5.out; omega)
                    obtain ⟨ec, rfl, zc⟩ := cau_el (Kd.C_below HCb.out HB.out) hql
                    have xb := cell_below5 HB.out HXb.out
                    have HQL := Aside0.mk hql
                    have HWQ := Aside0.mk (wr1 (i := q) hql (by have := H5.out; omega))
                    have hqi : (q : Int) < (rows.length : Int) := by omega
                    generalize rows.getD q [] = r at *
                    by_cases hxr : x < r.length
                    · --{ 4
                      have hd7 : decide ((x : Int) < (r.length : Int)) = true := decide_eq_true (by omega)
                      have hd7' : decide (x < r.length) = true := decide_eq_true hxr
                      obtain ⟨er, rfl, zr⟩ := Kd.at_int Cr (x : Int) (by omega) (by omega)
                      rw [Int.toNat_natCast, rd_nat] at zr
                      have hv8 := getD_in hrin x
                      have HS2 : Aside0 (psum rows i x (q + 1) = xorZ (psum rows i x q) (mulZ (cE i q) (r.getD x 0))) := ⟨by rw [HST.out, if_pos hxr]⟩
                      generalize r.getD x 0 = v at *
                      have HMU : Aside0 (field_Mul.f 9 (cE i q) v = some (mulZ (cE i q) v)) := ⟨Mul_z hci hv8 (by decide)⟩
                      have hxx := xor_u8 hpin (mulZ_in (b := v) hci)
                      have hxi : (x : Int) < (r.length : Int) := by omega
                      generalize cE i q = c at *
                      generalize psum rows i x q = s at *
                      clear hxr hql hq hbk Cr hrin lr hpin hci hv8 HST
                      go_wp2
                      go_quiet (first | (go_at_call 19; (with_reducible refine (field_Mul.calls 9 c v _ _ HMU.out).mono ?_); rintro e w' ⟨rfl, ⟨nd3, rfl⟩⟩; exact ⟨rfl, _, World.drewN_drewN _ _ _⟩))
                      clear xr zr xb zc hxx
                      go_wp2
                      go_roundw
                      case rel => exact ⟨q + 1, HQL.out, by rw [HS2.out], by rw [HWQ.out], ⟨pw_below_drewN HB.out _⟩⟩
                      case measure => exact meas HWQ.out HQL.out
                      --}
                    · --{ 5
                      have hd7 : decide ((x : Int) < (r.length : Int)) = false := decide_eq_false (by omega)
                      have hd7' : decide (x < r.length) = false := decide_eq_false hxr
                      have HS2 : Aside0 (psum rows i x (q + 1) = psum rows i x q) := ⟨by rw [HST.out, if_neg hxr]⟩
                      clear hxr hql hq hbk Cr hrin lr hpin hci zc xb HST
                      go_wp2
                      clear xr
                      go_roundw
                      case rel => exact ⟨q + 1, HQL.out, by rw [HS2.out], by rw [HWQ.out], HB⟩
                      case measure => exact meas HWQ.out HQL.out
                      --}
                  · --{ 6
                    have hd6 : decide ((q : Int) < (rows.length : Int)) = false := decide_eq_false (by omega)
                    have hd6' : decide (q < rows.length) = false := decide_eq_false hql
                    obtain rfl : q = rows.length := by omega
                    have xa := cell_below5 HB.out HXa.out
                    obtain ⟨ea, rfl, za⟩ := Kd.at_int (Kd.C_below HCa.out HB.out) (x : Int) (by omega) (by have := HXW.out; omega)
                    rw [Int.toNat_natCast, rd_nat] at za
                    have HNX := Aside0.mk (next_x HXW.out HWL.out)
                    have hxi : (x : Int) < (widthL rows : Int) := by have := HXW.out; omega
                    have hpe : psum rows i x rows.length = (moreRow rows i).getD x 0 := psum_end _ _ _
                    rw [← hpe] at za
                    generalize psum rows i x rows.length = s at *
                    clear hql hq hbk hpe
                    go_wp2
                    exact ⟨⟨x + 1 + widthL rows / 500, HNX.out.2, by rw [HNX.out.1], HB⟩, meas2 HNX.out.1 HXW.out (by omega)⟩
                    --}
              · --{ 7
                have hd5 : decide ((x : Int) < (widthL rows : Int)) = false := decide_eq_false (by omega)
                have hd5' : decide (x < widthL rows) = false := decide_eq_false hxw
                clear hxw hx
                go_wp2
                go_roundw
                case rel => exact ⟨i + 1, HIP.out, by rw [HWI.out], HB⟩
                case measure => exact meas HWI.out HIP.out
                --}
          · --{ 8
            have hd4 : decide ((i : Int) < (p : Int)) = false := decide_eq_false (by omega)
            have hd4' : decide (i < p) = false := decide_eq_false hip
            clear hip hi
            have HBK7 := Aside0.mk (HBK6.out.moved HB.out)
            go_wp2_with (first
              | (go_at_call 20; (with_reducible refine (comes_calls w1 _ _ _ _ _ _ g p _ _ ws rows lost _ _ HW.out HWS.out HN.out HNN.out HGET.out H0.out H5.out HIN.out HP1.out HP.out HR2.out HLO.out HLIN.out HBK7.out).mono ?_); rintro e w8 ⟨rfl, hb⟩; have HB8 := Aside0.mk hb; clear hb))
            go_ret
            exact ⟨rfl, below_step HB1.out HB8.out⟩
            --}
        --}
end Go.Proofs.Ytdhajlkiiphlfaa.Par
