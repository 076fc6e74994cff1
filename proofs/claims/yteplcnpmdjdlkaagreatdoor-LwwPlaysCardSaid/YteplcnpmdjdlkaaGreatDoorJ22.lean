/-
  The reference's Take, Valid and Str tell what utf's tell, for all strings. No condition.
  The reference's Str, printed. No condition.
  The reference's Str tells whether a string may be. No condition.
-/
import Derived.Test.YteplcnpmdjdlkaaGreatDoorPvJ
namespace Go.Proofs.YteplcnpmdjdlkaaGreatDoor
open Go.RowKit
set_option linter.unusedVariables false
set_option linter.unusedSimpArgs false
theorem head_bytes (s : ByteArray) (n : Nat) (hn : n ≤ s.size) : (s.extract 0 n).toList = (List.range n).map fun (i : Nat) => UInt8.ofNat (bt s (i : Int)).toNat := by
  rw [Lib.toList_data]
  have hz : s.data.size = s.size := rfl
  apply List.ext_getElem
  · simp; omega
  · intro i h1 h2
    have hi : i < n := by simpa using h2
    have hi2 : i < s.size := by omega
    simp only [List.getElem_map, List.getElem_range]
    have e : bt s (i : Int) = ((s[i]'hi2).toNat : Int) := (bt_at s (i : Int) (by simpa using hi2)).symm
    rw [e, Int.toNat_natCast, UInt8.ofNat_toNat]
    simp [ByteArray.getElem_eq_getElem_data]
theorem nums_list (xs : List Int) : (strOfNums xs).toList = xs.map fun n => UInt8.ofNat n.toNat := by
  rw [Lib.toList_data]; simp [strOfNums]
theorem putL_len (r : Int) : ((putL r).length : Int) = sizeR r := by
  unfold putL sizeR
  repeat' split
  all_goals rfl
theorem beginN_cases (b : Int) (h0 : 0 ≤ b) : (beginN b = (1, b) ∧ b < 128) ∨ (128 ≤ b ∧ (b < 192 ∨ 248 ≤ b) ∧ beginN b = (0, 0)) ∨ (192 ≤ b ∧ b < 224 ∧ beginN b = (2, b - 192)) ∨ (224 ≤ b ∧ b < 240 ∧ beginN b = (3, b - 224)) ∨ (240 ≤ b ∧ b < 248 ∧ beginN b = (4, b - 240)) := by
  unfold beginN
  by_cases h1 : b < 128
  · rw [if_pos h1]; exact .inl ⟨rfl, h1⟩
  rw [if_neg h1]
  by_cases h2 : b < 192
  · rw [if_pos h2]; exact .inr (.inl ⟨by omega, by omega, rfl⟩)
  rw [if_neg h2]
  by_cases h3 : b < 224
  · rw [if_pos h3]; exact .inr (.inr (.inl ⟨by omega, by omega, rfl⟩))
  rw [if_neg h3]
  by_cases h4 : b < 240
  · rw [if_pos h4]; exact .inr (.inr (.inr (.inl ⟨by omega, by omega, rfl⟩)))
  rw [if_neg h4]
  by_cases h5 : b < 248
  · rw [if_pos h5]; exact .inr (.inr (.inr (.inr ⟨by omega, by omega, rfl⟩)))
  · rw [if_neg h5]; exact .inr (.inl ⟨by omega, by omega, rfl⟩)
theorem contB_iff (c : Int) : contB c = true ↔ 128 ≤ c ∧ c < 192 := by simp [contB]
theorem size_range (r : Int) (n : Int) (h : sizeR r = n) : (n = 1 ∧ r < 128) ∨ (n = 2 ∧ 128 ≤ r ∧ r < 2048) ∨ (n = 3 ∧ 2048 ≤ r ∧ r < 65536) ∨ (n = 4 ∧ 65536 ≤ r) := by
  subst h; unfold sizeR
  repeat' split
  all_goals omega
theorem put_heads (s : ByteArray) (n : Nat) (r r0 : Int) (hn : n ≤ s.size) (hb : beginN (bt s 0) = ((n : Int), r0)) (h1 : 1 ≤ n) (hf : foldU s 1 (n - 1) r0 = some r) (hz : sizeR r = n) :
    (putL r).map (fun n => UInt8.ofNat n.toNat) = (List.range n).map fun (i : Nat) => UInt8.ofNat (bt s (i : Int)).toNat := by
  have hr := bt_range s 0
  have hs := size_range r n hz
  rcases beginN_cases (bt s 0) hr.1 with ⟨e, hlt⟩ | ⟨_, _, e⟩ | ⟨l0, l1, e⟩ | ⟨l0, l1, e⟩ | ⟨l0, l1, e⟩
  all_goals
    rw [e] at hb
    obtain ⟨e1, e2⟩ := Prod.mk.inj hb
  · obtain rfl : n = 1 := by omega
    change foldU s 1 0 r0 = some r at hf
    simp only [foldU, Option.some.injEq] at hf
    unfold putL
    rw [if_pos (by omega)]
    rw [← hf, ← e2]; rfl
  · omega
  · obtain rfl : n = 2 := by omega
    change foldU s 1 1 r0 = some r at hf
    simp only [foldU] at hf
    split at hf
    · rename_i c1
      have c1 := (contB_iff _).1 c1
      simp only [Option.some.injEq] at hf
      unfold putL
      rw [if_neg (by omega), if_pos (by omega)]
      have a0 : 192 + r / 64 = bt s 0 := by omega
      have a1 : 128 + r % 64 = bt s 1 := by omega
      rw [a0, a1]; rfl
    · cases hf
  · obtain rfl : n = 3 := by omega
    change foldU s 1 2 r0 = some r at hf
    simp only [foldU] at hf
    split at hf
    · rename_i c1
      have c1 := (contB_iff _).1 c1
      split at hf
      · rename_i c2
        have c2 := (contB_iff _).1 c2
        simp only [Option.some.injEq] at hf
        simp only [Int.reduceAdd] at c2 hf
        unfold putL
        rw [if_neg (by omega), if_neg (by omega), if_pos (by omega)]
        have a0 : 224 + r / 4096 = bt s 0 := by omega
        have a1 : 128 + r / 64 % 64 = bt s 1 := by omega
        have a2 : 128 + r % 64 = bt s 2 := by omega
        rw [a0, a1, a2]; rfl
      · cases hf
    · cases hf
  · obtain rfl : n = 4 := by omega
    change foldU s 1 3 r0 = some r at hf
    simp only [foldU] at hf
    split at hf
    · rename_i c1
      have c1 := (contB_iff _).1 c1
      split at hf
      · rename_i c2
        have c2 := (contB_iff _).1 c2
        split at hf
        · rename_i c3
          have c3 := (contB_iff _).1 c3
          simp only [Option.some.injEq] at hf
          simp only [Int.reduceAdd] at c2 c3 hf
          unfold putL
          rw [if_neg (by omega), if_neg (by omega), if_neg (by omega)]
          have a0 : 240 + r / 262144 = bt s 0 := by omega
          have a1 : 128 + r / 4096 % 64 = bt s 1 := by omega
          have a2 : 128 + r / 64 % 64 = bt s 2 := by omega
          have a3 : 128 + r % 64 = bt s 3 := by omega
          rw [a0, a1, a2, a3]; rfl
        · cases hf
      · cases hf
    · cases hf
theorem put_iff (s : ByteArray) (n : Nat) (r r0 : Int) (hn : n ≤ s.size) (hb : beginN (bt s 0) = ((n : Int), r0)) (h1 : 1 ≤ n) (hf : foldU s 1 (n - 1) r0 = some r) :
    ((strOfNums (putR r)).toList = (s.extract 0 n).toList) ↔ (goodR r && sizeR r == n) = true := by
  rw [nums_list, head_bytes s n hn]
  constructor
  · intro h
    have hl := congrArg List.length h
    simp only [List.length_map, List.length_range] at hl
    unfold putR at hl
    cases hg : goodR r
    · rw [hg] at hl; simp at hl; omega
    · rw [hg] at hl
      simp only [if_true] at hl
      have := putL_len r
      simp; omega
  · intro h
    simp only [Bool.and_eq_true, beq_iff_eq] at h
    unfold putR
    rw [if_pos h.1]
    exact put_heads s n r r0 hn hb h1 hf h.2
def endP (s : ByteArray) (n : Int) : Option Int → Int × Int
  | none => (0, 0)
  | some r => if (strOfNums (putR r)).toList = (s.extract 0 n.toNat).toList then (r, n) else (0, 0)
theorem rtake_go (s : ByteArray) (n : Int) (hs : n ≤ s.size) : ∀ (d k : Nat) (i r : Int), n = i + d → d < k → 1 ≤ i → n ≤ 4 → 0 ≤ r → r < 256 * 64 ^ (3 - d) → d ≤ 3 → dragomanref1_Take.l0 k s n r i = some (endP s n (foldU s i d r)) := by
  intro d
  induction d with
  | zero =>
    intro k i r hn hk hi h4 h0 h1 hd
    obtain ⟨k, rfl⟩ : ∃ m, k = m + 1 := ⟨k - 1, by omega⟩
    obtain rfl : i = n := by omega
    rw [dragomanref1_Take.l0, if_neg (by omega), dragomanref1_Put.f, foldU]
    simp only [Option.bind_some, endP]
    rw [if_pos (by omega), if_pos (by omega)]
    split <;> rfl
  | succ d ih =>
    intro k i r hn hk hi h4 h0 h1 hd
    obtain ⟨k, rfl⟩ : ∃ m, k = m + 1 := ⟨k - 1, by omega⟩
    have hb := bt_range s i
    rw [dragomanref1_Take.l0, if_pos (by omega), if_pos (by omega), if_pos (by omega), foldU]
    by_cases c1 : bt s i < 128
    · rw [if_pos c1, if_neg (by rw [contB_iff]; omega)]; rfl
    rw [if_neg c1]
    by_cases c2 : bt s i > 191
    · rw [if_pos c2, if_neg (by rw [contB_iff]; omega)]; rfl
    rw [if_neg c2, if_pos ((contB_iff _).2 (by omega))]
    have e2 : wrap64 ((wrap64 ((wrap64 (64 * r)) + (wrap64 (bt s i)))) - 128) = r * 64 + (bt s i - 128) := by
      have : d = 0 ∨ d = 1 ∨ d = 2 := by omega
      rcases this with rfl | rfl | rfl <;> simp at h1 <;> unfold wrap64 <;> omega
    have e3 : wrap64 (i + 1) = i + 1 := by unfold wrap64; omega
    rw [e2, e3]
    refine ih k (i + 1) _ (by omega) (by omega) (by omega) h4 (by omega) ?_ (by omega)
    have : d = 0 ∨ d = 1 ∨ d = 2 := by omega
    rcases this with rfl | rfl | rfl <;> simp at h1 ⊢ <;> omega
theorem rtake_j3 (s : ByteArray) (k n : Nat) (r : Int) (hk : n + 2 ≤ k) (h1 : 1 ≤ n) (h4 : n ≤ 4) (h0 : 0 ≤ r) (h9 : r < 128) (hb : beginN (bt s 0) = ((n : Int), r)) (hz : s.size ≠ 0) : dragomanref1_Take.j3 k s n r = some (takeS s) := by
  obtain ⟨k, rfl⟩ : ∃ m, k = m + 1 := ⟨k - 1, by omega⟩
  rw [dragomanref1_Take.j3]
  unfold takeS
  rw [if_neg hz, hb]
  by_cases hn : (s.size : Int) < n
  · rw [if_pos hn, if_pos (.inr hn)]
  · rw [if_neg hn, if_neg (by simp; omega)]
    rw [rtake_go s n (by omega) (n - 1) k 1 r (by omega) (by omega) (by omega) (by omega) h0 (by
      have : n - 1 = 0 ∨ n - 1 = 1 ∨ n - 1 = 2 ∨ n - 1 = 3 := by omega
      rcases this with h | h | h | h <;> rw [h] <;> simp <;> omega) (by omega)]
    simp only [Int.toNat_natCast]
    cases hf : foldU s 1 (n - 1) r with
    | none => rfl
    | some r' =>
      have hp := put_iff s n r' r (by omega) hb h1 hf
      simp only [endP, Int.toNat_natCast]
      by_cases hq : (goodR r' && sizeR r' == n) = true
      · rw [if_pos (hp.2 hq), if_pos hq]
      · rw [if_neg (fun h => hq (hp.1 h)), if_neg hq]
theorem rtake_eq (s : ByteArray) (k : Nat) (hk : 12 ≤ k) : dragomanref1_Take.f k s = some (takeS s) := by
  obtain ⟨k, rfl⟩ : ∃ m, k = m + 12 := ⟨k - 12, by omega⟩
  have hr := bt_range s 0
  unfold dragomanref1_Take.f
  by_cases h0 : s.size = 0
  · rw [if_pos ((empty_iff s).2 h0)]; unfold takeS; rw [if_pos h0]
  rw [if_neg (fun h => h0 ((empty_iff s).1 h)), if_pos (by omega)]
  have hw : wrap64 (bt s 0) = bt s 0 := by unfold wrap64; omega
  rw [hw]
  have w4 : wrap64 (bt s 0 - 240) = bt s 0 - 240 := by unfold wrap64; omega
  have w3 : wrap64 (bt s 0 - 224) = bt s 0 - 224 := by unfold wrap64; omega
  have w2 : wrap64 (bt s 0 - 192) = bt s 0 - 192 := by unfold wrap64; omega
  rcases beginN_cases (bt s 0) hr.1 with ⟨e, hlt⟩ | ⟨l0, l1, e⟩ | ⟨l0, l1, e⟩ | ⟨l0, l1, e⟩ | ⟨l0, l1, e⟩
  · rw [if_neg (by omega), dragomanref1_Take.j0, if_neg (by simp), if_neg (by omega), dragomanref1_Take.j1, if_neg (by simp), if_neg (by omega), dragomanref1_Take.j2, if_neg (by simp), if_neg (by omega)]
    exact rtake_j3 s _ 1 _ (by omega) (by omega) (by omega) (by omega) (by omega) e h0
  · have ht : takeS s = (0, 0) := by unfold takeS; rw [if_neg h0, e]; simp
    rw [ht]
    by_cases g4 : bt s 0 ≥ 240
    · rw [if_pos g4, decide_eq_false (by omega : ¬ bt s 0 < 248), dragomanref1_Take.j0, if_neg (by simp), if_pos (by omega), decide_eq_false (by omega : ¬ bt s 0 < 240), dragomanref1_Take.j1, if_neg (by simp), if_pos (by omega), decide_eq_false (by omega : ¬ bt s 0 < 224), dragomanref1_Take.j2, if_neg (by simp), if_pos (by omega)]
    · rw [if_neg g4, dragomanref1_Take.j0, if_neg (by simp), if_neg (by omega), dragomanref1_Take.j1, if_neg (by simp), if_neg (by omega), dragomanref1_Take.j2, if_neg (by simp), if_pos (by omega)]
  · rw [if_neg (by omega), dragomanref1_Take.j0, if_neg (by simp), if_neg (by omega), dragomanref1_Take.j1, if_neg (by simp), if_pos (by omega), decide_eq_true (by omega : bt s 0 < 224), dragomanref1_Take.j2, if_pos rfl, w2]
    exact rtake_j3 s _ 2 _ (by omega) (by omega) (by omega) (by omega) (by omega) e h0
  · rw [if_neg (by omega), dragomanref1_Take.j0, if_neg (by simp), if_pos (by omega), decide_eq_true (by omega : bt s 0 < 240), dragomanref1_Take.j1, if_pos rfl, w3]
    exact rtake_j3 s _ 3 _ (by omega) (by omega) (by omega) (by omega) (by omega) e h0
  · rw [if_pos (by omega), decide_eq_true (by omega : bt s 0 < 248), dragomanref1_Take.j0, if_pos rfl, w4]
    exact rtake_j3 s _ 4 _ (by omega) (by omega) (by omega) (by omega) (by omega) e h0
def rV (p : Int × Bool) : Int := if p.2 then -1 else p.1
theorem rvalid_go (s : ByteArray) (hs : s.size ≤ 9223372036854775807) : ∀ (d k i : Nat), s.size - i ≤ d → d + 13 ≤ k → i ≤ s.size → dragomanref1_Valid.l0 k s i = some (rV (vGo s d i)) := by
  intro d
  induction d with
  | zero =>
    intro k i hd hk hi
    obtain ⟨k, rfl⟩ : ∃ m, k = m + 1 := ⟨k - 1, by omega⟩
    obtain rfl : i = s.size := by omega
    rw [dragomanref1_Valid.l0, if_neg (by omega), vGo]; rfl
  | succ d ih =>
    intro k i hd hk hi
    obtain ⟨k, rfl⟩ : ∃ m, k = m + 1 := ⟨k - 1, by omega⟩
    rw [dragomanref1_Valid.l0, vGo]
    by_cases hlt : i < s.size
    · rw [if_pos (by omega), if_pos (by omega), if_pos (by omega), if_pos hlt]
      simp only [Int.toNat_natCast]
      rw [rtake_eq _ k (by omega)]
      have hn := takeS_n (s.extract i s.size)
      rw [extract_size] at hn
      simp only [Option.bind_some]
      by_cases h0 : (takeS (s.extract i s.size)).2 = 0
      · rw [if_pos h0, if_pos h0]; rfl
      · rw [if_neg h0, if_neg h0]
        have e : wrap64 ((i : Int) + (takeS (s.extract i s.size)).2) = ((i + (takeS (s.extract i s.size)).2.toNat : Nat) : Int) := by
          unfold wrap64
          omega
        rw [e]
        exact ih k _ (by omega) (by omega) (by omega)
    · rw [if_neg (by omega), if_neg hlt]; rfl
theorem vGo_pos (s : ByteArray) : ∀ d i, 0 ≤ (vGo s d i).1 := by
  intro d
  induction d with
  | zero => intro i; rw [vGo]; simp
  | succ d ih =>
    intro i; rw [vGo]
    split
    · split
      · simp
      · exact ih _
    · simp
theorem rvalid_any (s : ByteArray) (w : World) (hs : s.size ≤ 9223372036854775807) : Calls Tryz.prog 32 #[.string s] w fun e w' => e = .returned (.int .i64 (rV (validS s))) ∧ Below w.heap.size w w' :=
  dragomanref1_Valid.calls (s.size + 13) s _ w (by
    rw [dragomanref1_Valid.f, show (0 : Int) = ((0 : Nat) : Int) from rfl, rvalid_go s hs s.size (s.size + 13) 0 (by omega) (by omega) (by omega)]
    rfl)
theorem rV_neg (s : ByteArray) : (rV (validS s) < 0) ↔ (validS s).2 = true := by
  have := vGo_pos s s.size 0
  unfold validS rV
  cases hv : (vGo s s.size 0).2
  · simp; omega
  · simp
end Go.Proofs.YteplcnpmdjdlkaaGreatDoor
namespace Go.Proofs.YteplcnpmdjdlkaaGreatDoor
open Go.RowKit
set_option linter.unusedVariables false
set_option linter.unusedSimpArgs false
/-! ### dragomanref1_Str -/
def dragomanref1_Str.f (k : Nat) (a0 : ByteArray) : Option (Bool) := if (a0.size : Int) ≤ 4096 then ((dragomanref1_Valid.f k a0).bind fun t188 => (some (decide (t188 < 0)))) else (some false)
theorem dragomanref1_Str.mono : ∀ a0 k, LeO (dragomanref1_Str.f k a0) (dragomanref1_Str.f (k + 1) a0) := by
  intro a0 k
  unfold dragomanref1_Str.f
  repeat' first
      | (with_reducible exact dragomanref1_Valid.mono _ _)
      | (with_reducible exact LeO.refl _)
      | (with_reducible exact LeO.none _)
      | (with_reducible refine LeO.ite ?_ ?_)
      | (with_reducible refine LeO.bind ?_ (fun _ => ?_))
      | exact dragomanref1_Valid.mono _ _
      | exact LeO.none _
      | refine LeO.ite ?_ ?_
      | refine LeO.bind ?_ (fun _ => ?_)
set_option maxHeartbeats 8000000 in
set_option maxRecDepth 100000 in
theorem dragomanref1_Str.calls (k : Nat) (a0 : ByteArray) (r : Bool) (w : World) (h : dragomanref1_Str.f k a0 = some r) :
    Calls Tryz.prog 20 #[.string a0] w fun e w' => e = .returned (.bool r) ∧ Below w.heap.size w w' := by
  have HB := Aside0.mk (Below.refl w.heap.size w)
  have H : (if (a0.size : Int) ≤ 4096 then ((dragomanref1_Valid.f k a0).bind fun t188 => (some (decide (t188 < 0)))) else (some false)) = some r := h
  clear h
  by_cases c2 : (a0.size : Int) ≤ 4096
  · rw [if_pos c2] at H
    have c2b0 : decide ((a0.size : Int) ≤ 4096) = true := decide_eq_true c2
    have c2b1 : decide (a0.size ≤ 4096) = true := decide_eq_true (by omega)
    clear c2
    replace H := Option.bind_eq_some_iff.mp H
    obtain ⟨t188, A30, H⟩ := H
    replace H : (some (decide (t188 < 0))) = some r := H
    have A3 := Aside0.mk A30
    clear A30
    obtain rfl := Option.some.inj H
    go_enter Tryz.func20, Tryz.ntmps20
    go_wp2_with (first | (go_at_call 32; (with_reducible refine (dragomanref1_Valid.calls k a0 t188 _ A3.out).mono ?_); rintro e w4 ⟨rfl, hb⟩; have n0_ := Aside0.mk (below_step (by repeat (first | (with_reducible first | exact HB.out | apply below_alloc | apply pw_below_drewN | apply below_drew1) | exact HB.out)) hb); clear HB; have HB := n0_; clear n0_; (try clear hb); (try clear hb2); (try clear hk); (try clear hi)))
    go_ret
    exact ⟨by first | rfl | (simp [errW_none, errW_some] <;> rfl) | (simp [*, errW_none, errW_some] <;> rfl), by repeat (first | (with_reducible first | exact HB.out | apply below_alloc | apply pw_below_drewN | apply below_drew1) | exact HB.out)⟩
  · rw [if_neg c2] at H
    have c2b0 : decide ((a0.size : Int) ≤ 4096) = false := decide_eq_false c2
    have c2b1 : decide (a0.size ≤ 4096) = false := decide_eq_false (by omega)
    clear c2
    obtain rfl := Option.some.inj H
    go_enter Tryz.func20, Tryz.ntmps20
    go_wp2
    go_ret
    exact ⟨by first | rfl | (simp [errW_none, errW_some] <;> rfl) | (simp [*, errW_none, errW_some] <;> rfl), by repeat (first | (with_reducible first | exact HB.out | apply below_alloc | apply pw_below_drewN | apply below_drew1) | exact HB.out)⟩
end Go.Proofs.YteplcnpmdjdlkaaGreatDoor
namespace Go.Proofs.YteplcnpmdjdlkaaGreatDoor
open Go.RowKit
set_option linter.unusedVariables false
set_option linter.unusedSimpArgs false
theorem rstr_eq (s : ByteArray) : dragomanref1_Str.f (s.size + 13) s = some (letC s == 0) := by
  unfold dragomanref1_Str.f letC
  by_cases h : (s.size : Int) ≤ 4096
  · rw [if_pos h, dragomanref1_Valid.f, show (0 : Int) = ((0 : Nat) : Int) from rfl, rvalid_go s (by omega) s.size (s.size + 13) 0 (by omega) (by omega) (by omega)]
    simp only [Option.bind_some]
    have := vGo_pos s s.size 0
    unfold validS rV
    cases hv : (vGo s s.size 0).2
    · simp; omega
    · simp; omega
  · rw [if_neg h]
    rw [if_pos (show 4096 < s.size by omega)]
    split <;> rfl
theorem rstr_any (s : ByteArray) (w : World) : Calls Tryz.prog 20 #[.string s] w fun e w' => e = .returned (.bool (letC s == 0)) ∧ Below w.heap.size w w' :=
  dragomanref1_Str.calls _ s _ w (rstr_eq s)
end Go.Proofs.YteplcnpmdjdlkaaGreatDoor
