/-
  The reference's Cmp, put together: just dec's. Condition: texts of at most 1000 bytes.
-/
import Derived.Test.YtkdejdmmgjibmaaDoorRefCmp
import Derived.Test.YtkdejdmmgjibmaaDoorDecNeg
namespace Go.Proofs.YtkdejdmmgjibmaaDoor
open Go.RowKit
set_option linter.unusedVariables false
set_option linter.unusedSimpArgs false
theorem ci_lt' {a b : Int} (h : a < b) : Lib.compareInt a b = -1 := by unfold Lib.compareInt; rw [if_pos h]
theorem ci_gt' {a b : Int} (h : b < a) : Lib.compareInt a b = 1 := by unfold Lib.compareInt; rw [if_neg (by omega), if_pos (by omega)]
theorem less_bytes {D E : List UInt8} : Op.bytesLess D E = decide (Lib.compareBytes D E = -1) := by
  induction D generalizing E with
  | nil => cases E <;> simp [Op.bytesLess, Lib.compareBytes]
  | cons a D ih =>
    cases E with
    | nil => simp [Op.bytesLess, Lib.compareBytes]
    | cons b E =>
      rw [cb_cons]
      unfold Op.bytesLess
      by_cases h1 : a.toNat < b.toNat
      · have : a < b := h1
        rw [if_pos h1]; simp [this]
      · have h1' : ¬ a < b := h1
        rw [if_neg h1]
        by_cases h2 : b.toNat < a.toNat
        · have hne : (a == b) = false := by
            cases hq : a == b
            · rfl
            · have := eq_of_beq hq; subst this; omega
          rw [if_pos h2, hne]; simp [h1']
        · have he : a = b := UInt8.toNat_inj.1 (by omega)
          rw [if_neg h2, ih]
          subst he
          simp [h1']
theorem num_zero {x : Num} {l : List UInt8} (h : parseN l = some x) (h0 : x.2.1 = []) : x.1 = false ∧ x.2.2 = 0 := by
  unfold parseN at h
  split at h
  · cases h
  split at h
  · cases h
  obtain ⟨pr, hpr, h⟩ := Option.bind_eq_some_iff.1 h
  obtain ⟨e, he, h⟩ := Option.map_eq_some_iff.1 h
  subst h
  by_cases ht : Lib.trimLeftB ((Lib.trimPrefix l [45]).take (digN (Lib.trimPrefix l [45])) ++ pr.1) 48 = []
  · unfold normN; rw [if_pos ht]; exact ⟨rfl, rfl⟩
  · exact absurd h0 (norm_full ht)
theorem rcmp_any (a b : ByteArray) (w : World) (ha : a.size ≤ 1000) (hb : b.size ≤ 1000) : Calls Tryd.prog 19 #[.string a, .string b] w fun e w' => e = .returned (.int .i64 (cmpN a.data.toList b.data.toList)) ∧ w' = w := by
  have na := fun V => number_any a V ha
  have nb := fun V => number_any b V hb
  unfold cmpN
  cases hx : parseN a.data.toList with
  | none =>
    have ga : goodN a.data.toList = false := by unfold goodN; rw [hx]; rfl
    rw [ga] at na
    cases hy : parseN b.data.toList with
    | none =>
      have gb : goodN b.data.toList = false := by unfold goodN; rw [hy]; rfl
      rw [gb] at nb
      exact rcmp_nn a b w na nb
    | some y =>
      have gb : goodN b.data.toList = true := by unfold goodN; rw [hy]; rfl
      rw [gb] at nb
      exact rcmp_ny a b w na nb
  | some x =>
    have ga : goodN a.data.toList = true := by unfold goodN; rw [hx]; rfl
    rw [ga] at na
    cases hy : parseN b.data.toList with
    | none =>
      have gb : goodN b.data.toList = false := by unfold goodN; rw [hy]; rfl
      rw [gb] at nb
      exact rcmp_yn a b w na nb
    | some y =>
      have gb : goodN b.data.toList = true := by unfold goodN; rw [hy]; rfl
      rw [gb] at nb
      have ca := fun V => scaled_good a V x hx
      have cb := fun V => scaled_good b V y hy
      obtain ⟨p, D, n⟩ := x
      obtain ⟨q, E, m⟩ := y
      have sa := fun V => rsign_any p ⟨D.toArray⟩ V
      have sb := fun V => rsign_any q ⟨E.toArray⟩ V
      have zx := num_zero hx
      have zy := num_zero hy
      have hS1 : signN (p, (⟨D.toArray⟩ : ByteArray).data.toList, 0) = signN (p, D, n) := rfl
      have hS2 : signN (q, (⟨E.toArray⟩ : ByteArray).data.toList, 0) = signN (q, E, m) := rfl
      rw [hS1] at sa
      rw [hS2] at sb
      have tD : (⟨D.toArray⟩ : ByteArray).toList = D := by rw [Lib.toList_data]
      have tE : (⟨E.toArray⟩ : ByteArray).toList = E := by rw [Lib.toList_data]
      show Calls _ _ _ _ fun e w' => e = .returned (.int .i64 (cmpNum (p, D, n) (q, E, m))) ∧ _
      by_cases heq : D = E ∧ p = q ∧ n = m
      · obtain ⟨h1, h2, h3⟩ := heq
        have hz : cmpNum (p, D, n) (q, E, m) = 0 := by
          subst h1 h2 h3
          have := num_anti (p, D, n) (p, D, n)
          omega
        rw [hz]
        exact rcmp_eq a b w na nb p q _ _ n m _ _ ca cb sa sb (by rw [tD, tE]; exact h1) h2 h3
      have hne : ¬ ((⟨D.toArray⟩ : ByteArray).toList = (⟨E.toArray⟩ : ByteArray).toList ∧ p = q ∧ n = m) := by rw [tD, tE]; exact heq
      obtain ⟨s, hs⟩ : ∃ s, signN (p, D, n) = s := ⟨_, rfl⟩
      obtain ⟨t, ht⟩ : ∃ t, signN (q, E, m) = t := ⟨_, rfl⟩
      rw [hs] at sa
      rw [ht] at sb
      unfold cmpNum
      rw [hs, ht]
      rcases Int.lt_trichotomy s t with h | h | h
      · rw [if_pos (by omega), ci_lt' h]
        exact rcmp_lt a b w na nb p q _ _ n m s t ca cb sa sb hne h
      · subst h
        rw [if_neg (by simp)]
        have hr := signN_range (p, D, n)
        rw [hs] at hr
        have hD0 : s ≠ 0 := fun e => by
          subst e
          have h1 : D = [] := by
            unfold signN at hs
            by_cases hd : D = []
            · exact hd
            · simp only [hd, if_false] at hs; split at hs <;> omega
          have h2 : E = [] := by
            unfold signN at ht
            by_cases hd : E = []
            · exact hd
            · simp only [hd, if_false] at ht; split at ht <;> omega
          obtain ⟨a1, a2⟩ := zx h1
          obtain ⟨b1, b2⟩ := zy h2
          simp only at a1 a2 b1 b2
          exact heq ⟨by rw [h1, h2], by rw [a1, b1], by rw [a2, b2]⟩
        have hpm : s = 1 ∨ s = -1 := by omega
        unfold sizeN
        rcases Int.lt_trichotomy n m with hn | hn | hn
        · rw [if_pos (by simp only; omega)]
          rw [show Lib.compareInt (p, D, n).2.2 (q, E, m).2.2 = -1 from ci_lt' hn]
          rcases hpm with rfl | rfl
          · exact rcmp_ap a b w na nb p q _ _ n m _ _ ca cb sa sb rfl hn (by omega)
          · exact rcmp_am a b w na nb p q _ _ n m _ _ ca cb sa sb rfl hn (by omega)
        · subst hn
          rw [if_neg (by simp)]
          have hDE : D ≠ E := fun e => by
            refine heq ⟨e, ?_, rfl⟩
            have := (sign_eq (x := (p, D, n)) (y := (q, E, n)) (by rw [hs, ht])).2
            refine this (fun h0 => hD0 ?_)
            rw [← hs]; unfold signN; rw [if_pos h0]
          have h0 : ¬ (⟨D.toArray⟩ : ByteArray).toList = (⟨E.toArray⟩ : ByteArray).toList := by rw [tD, tE]; exact hDE
          have hcr := compareBytes_range D E
          have hc0 : Lib.compareBytes D E ≠ 0 := fun e => hDE (cb_zero e)
          show Calls _ _ _ _ fun e w' => e = .returned (.int .i64 (s * Lib.compareBytes D E)) ∧ _
          rcases hcr with hc | hc | hc
          · have hL : Op.bytesLess (⟨D.toArray⟩ : ByteArray).toList (⟨E.toArray⟩ : ByteArray).toList = true := by rw [tD, tE, less_bytes, hc]; rfl
            rw [hc]
            rcases hpm with rfl | rfl
            · exact rcmp_ctp a b w na nb p q _ _ n n _ _ ca cb sa sb h0 rfl rfl (by omega) hL
            · exact rcmp_ctm a b w na nb p q _ _ n n _ _ ca cb sa sb h0 rfl rfl (by omega) hL
          · exact absurd hc hc0
          · have hL : Op.bytesLess (⟨D.toArray⟩ : ByteArray).toList (⟨E.toArray⟩ : ByteArray).toList = false := by rw [tD, tE, less_bytes, hc]; rfl
            rw [hc]
            rcases hpm with rfl | rfl
            · exact rcmp_cfp a b w na nb p q _ _ n n _ _ ca cb sa sb h0 rfl rfl (by omega) hL
            · exact rcmp_cfm a b w na nb p q _ _ n n _ _ ca cb sa sb h0 rfl rfl (by omega) hL
        · rw [if_pos (by simp only; omega)]
          rw [show Lib.compareInt (p, D, n).2.2 (q, E, m).2.2 = 1 from ci_gt' hn]
          rcases hpm with rfl | rfl
          · exact rcmp_bp a b w na nb p q _ _ n m _ _ ca cb sa sb rfl hn (by omega)
          · exact rcmp_bm a b w na nb p q _ _ n m _ _ ca cb sa sb rfl hn (by omega)
      · rw [if_pos (by omega), ci_gt' h]
        exact rcmp_gt a b w na nb p q _ _ n m s t ca cb sa sb hne h
end Go.Proofs.YtkdejdmmgjibmaaDoor
