/-
  The reference's Keys: the statement that puts a key at its place. No condition.
-/
import Derived.Test.YteplcnpmdjdlkaaGreatDoorLwwQJ
import Derived.Test.YteplcnpmdjdlkaaGreatDoorJ23
import Derived.Test.YteplcnpmdjdlkaaGreatDoorJ19
namespace Go.Proofs.YteplcnpmdjdlkaaGreatDoor
open Go.RowKit Go.Sort
set_option linter.unusedVariables false
set_option linter.unusedSimpArgs false
set_option linter.unusedSectionVars false
section
variable {P : Program} {o : Oper} {a : Act} {w : World} {R : Value → World → Prop}
theorem gives_cut (t : TypeId) (x : Operand) (lo hi mx : Option Operand) (ho : o.op = .slice t x lo hi mx) (vx : Value) (vl vh vm : Option Value) (hx : a.eval x = vx) (hl : lo.map a.eval = vl) (hh : hi.map a.eval = vh) (hm : mx.map a.eval = vm) (v : Value) (hr : (Instr.sliceAt t vx vl vh vm).run P w = .ok v w) (h : R v w) : gives P o a w R := by
  unfold gives execOp
  subst hx hl hh hm
  simp only [ho, Sem.run_bind, hr, Result.andThen_ok, Sem.run_pure]
  exact h
end
noncomputable def keys12 : Array Oper := regOf Tryz.f18 12
theorem str_elem : Tryz.prog.elem 43 = 9 := by kernel_rfl
theorem str_under : Tryz.prog.underlying 43 = some (.slice (Tryz.prog.elem 43)) := by kernel_rfl
theorem str_info : ∃ i, Tryz.prog.info? 9 = some i ∧ i.zero = some (.string ⟨#[]⟩) ∧ i.size = 1 ∧ i.bytes = 16 := by
  obtain ⟨i, h1, h2⟩ := Option.map_eq_some_iff.1 info_str
  exact ⟨i, h1, congrArg (fun x => x.1) h2, congrArg (fun x => x.2.1) h2, congrArg (fun x => x.2.2) h2⟩
theorem cut_h (A : Option Addr) (n c m : Nat) (h : m ≤ c) (W : World) : (Instr.sliceAt 43 (.slice A n c) none (some (.int .i64 (m : Int))) none).run Tryz.prog W = .ok (sliced A 0 m c 1) W := by
  obtain ⟨i, h1, _, h3, _⟩ := str_info
  rw [run_sliceAt_slice _ _ _ _ _ _ str_under, run_slice_h W _ _ _ _ str_under .i64 m (by omega) (by omega), str_elem]
  simp [sizeOf, typeInfo, h1, h3]
theorem cut_l (A : Option Addr) (n c m : Nat) (h : m ≤ n) (W : World) : (Instr.sliceAt 43 (.slice A n c) (some (.int .i64 (m : Int))) none none).run Tryz.prog W = .ok (sliced A m n c 1) W := by
  obtain ⟨i, h1, _, h3, _⟩ := str_info
  rw [run_sliceAt_slice _ _ _ _ _ _ str_under, run_slice_l W _ _ _ _ str_under .i64 m (by omega) (by omega), str_elem]
  simp [sizeOf, typeInfo, h1, h3]
theorem make0 (W : World) : (Instr.buildSlice 43 0 #[]).run Tryz.prog W = .ok (.slice (some ⟨W.heap.size, 0, none⟩) 0 0) (W.alloc (.cells #[] 9)) := by kernel_rfl
theorem make1 (k : ByteArray) (W : World) : (Instr.buildSlice 43 1 #[(0, .string k)]).run Tryz.prog W = .ok (.slice (some ⟨W.heap.size, 0, none⟩) 1 1) (W.alloc (.cells #[.string k] 9)) := by kernel_rfl
theorem field70 (b : Nat) (W : World) : (Instr.fieldAt 36 (.pointer (some ⟨b, 0, none⟩)) 5).run Tryz.prog W = .ok (.pointer (some ⟨b, 70, none⟩)) W := by kernel_rfl
/-- The cells ahead of a place, and those behind it, as the slices spell them. -/
theorem sin_ahead {w : World} {A : Option Addr} {g : Nat} {K : List (List UInt8)} (h : SIn w A g K) (m c : Nat) (hm : m ≤ K.length) : ∃ A', sliced A 0 m c 1 = .slice A' m c ∧ (A' = none → m = 0) ∧ ∀ d, A' = some d → ∀ (j : Nat) u, ((K.take m).map encStr)[j]? = some u → w.cell? (d.add j) = some u := by
  refine ⟨_, rfl, fun hn => ?_, fun d hd j u hu => ?_⟩
  · rcases Nat.eq_zero_or_pos m with h0 | h0
    · exact h0
    · rw [(h.a (by omega)).1] at hn
      split at hn <;> simp at hn
  · rw [List.getElem?_map, List.getElem?_take] at hu
    split at hu
    · rename_i hj
      obtain ⟨s, hs, rfl⟩ := Option.map_eq_some_iff.1 hu
      have h0 : 0 < K.length := by omega
      rw [(h.a h0).1] at hd
      have hd2 : d = ⟨g, 0, none⟩ := by
        split at hd
        · exact (Option.some.inj hd).symm
        · exact (Option.some.inj hd).symm.trans (add_at g 0 _)
      subst hd2
      rw [add_at, Nat.zero_add]
      exact h.c j s hs
    · cases hu
theorem sin_behind {w : World} {A : Option Addr} {g : Nat} {K : List (List UInt8)} (h : SIn w A g K) (m c : Nat) (hm : m ≤ K.length) (hc : K.length ≤ c) : ∃ A', sliced A m K.length c 1 = .slice A' (K.length - m) (c - m) ∧ (A' = none → K.length - m = 0) ∧ ∀ d, A' = some d → ∀ (j : Nat) u, ((K.drop m).map encStr)[j]? = some u → w.cell? (d.add j) = some u := by
  refine ⟨_, rfl, fun hn => ?_, fun d hd j u hu => ?_⟩
  · rcases Nat.eq_zero_or_pos K.length with h0 | h0
    · omega
    · rw [(h.a h0).1] at hn
      split at hn <;> simp at hn
  · rw [List.getElem?_map, List.getElem?_drop] at hu
    obtain ⟨s, hs, rfl⟩ := Option.map_eq_some_iff.1 hu
    have hl : m + j < K.length := (List.getElem?_eq_some_iff.1 hs).1
    rw [(h.a (by omega)).1] at hd
    have hd2 : d = ⟨g, m, none⟩ := by
      split at hd
      · omega
      · exact (Option.some.inj hd).symm.trans ((add_at g 0 _).trans (by rw [Nat.zero_add, Nat.mul_one]))
    subst hd2
    rw [add_at]
    exact h.c (m + j) s hs
def valK (A : Option Addr) (n c m ob : Nat) (key : ByteArray) : Nat → Value := fun k => [undef, .slice A n c, .int .i64 (m : Int), sliced A 0 m c 1, undef, .pointer (some ⟨ob, 70, none⟩), .string key, undef, undef, .slice A n c, .int .i64 (m : Int), sliced A m n c 1].getD k undef
set_option maxRecDepth 100000 in
set_option maxHeartbeats 1000000 in
theorem regKeys12 {ops : Array Oper} (hops : ops = keys12) {Q : Exit → Act → World → Prop} {a0 : Act} {w0 : World} {A : Option Addr} {g c m ob : Nat} {K : List (List UInt8)} {box : Array Value} {key : List UInt8} (hz : 83 ≤ a0.tmps.size)
    (h5 : a0.eval (.tmp 5) = .slice A K.length c) (h10 : a0.eval (.tmp 10) = .int .i64 (m : Int)) (h7 : a0.eval (.tmp 7) = .pointer (some ⟨ob, 0, none⟩)) (hm : m ≤ K.length) (hc : K.length ≤ c) (hn : K.length ≤ 1000000) (hK : SIn w0 A g K)
    (hbox : w0.heap[ob]? = some (.cells box 36 (0, 0))) (hb : box[70]? = some (.string (kb key)))
    (hend : ∀ θ W, W.ownsRow w0.heap.size 9 1 (θ 12) (K.length + 1) ((K.take m ++ key :: K.drop m).map encStr) → Below w0.heap.size w0 W → wpList Tryz.prog ops Q (ops.toList.drop 13) (seqTo ops θ a0 13) W) :
    (Code.region 12 ops true).wp Tryz.prog Q a0 w0 := by
  subst hops
  obtain ⟨inf, hi1, hi2, hi3, hi4⟩ := str_info
  have hlb : ob < w0.heap.size := (Array.getElem?_eq_some_iff.1 hbox).1
  have hsz : ∀ t, t < 83 → decide (t < a0.tmps.size) = true := fun t ht => decide_eq_true (by omega)
  have hone : ∀ l : List (List UInt8), ∀ u ∈ l.map encStr, u.oneCell' = true := fun l u hu => by
    obtain ⟨s, _, rfl⟩ := List.mem_map.1 hu
    rfl
  refine wp_region_ins 9 1 12 0 4 7 8 m ((K.take m).map encStr) #[.string (kb key)] (valK A K.length c m ob (kb key)) (by kernel_rfl) (by kernel_rfl) (by kernel_rfl) (of_decide_eq_true (by kernel_rfl)) (by kernel_rfl) (by decide) (by decide) (by decide) (by decide) (by kernel_rfl) (by kernel_rfl) (by kernel_rfl) ?_ ?_ ?_ ?_ ?_ ?_ ?_
  · intro i o hi ho
    have h := List.all_eq_true.1 (show (List.range 12).all (fun i => plainAt keys12 i) = true by kernel_rfl) i (List.mem_range.2 hi)
    simp only [plainAt, ho] at h
    simpa only [Option.isNone_iff_eq_none] using h
  · intro i o hi n0 n1 n2 n3 ho θ W hB hT
    rcases (show i = 1 ∨ i = 2 ∨ i = 3 ∨ i = 5 ∨ i = 6 ∨ i = 9 ∨ i = 10 ∨ i = 11 by omega) with rfl | rfl | rfl | rfl | rfl | rfl | rfl | rfl
    · exact gives_move (.tmp 5) (op_of ho (by kernel_rfl)) (seq_old (by kernel_rfl) h5) ⟨rfl, rfl⟩
    · exact gives_move (.tmp 10) (op_of ho (by kernel_rfl)) (seq_old (by kernel_rfl) h10) ⟨rfl, rfl⟩
    · have e1 : θ 1 = .slice A K.length c := hT 1 (by decide) (by decide) (by decide) (by decide) (by decide) (by kernel_rfl)
      have e2 : θ 2 = .int .i64 (m : Int) := hT 2 (by decide) (by decide) (by decide) (by decide) (by decide) (by kernel_rfl)
      exact gives_cut 43 (.tmp 70) none (some (.tmp 71)) none (op_of ho (by kernel_rfl)) _ _ _ _ (seq_at (by kernel_rfl) (hsz _ (by decide)) e1) rfl (congrArg some (seq_at (by kernel_rfl) (hsz _ (by decide)) e2)) rfl _ (cut_h A K.length c m (by omega) W) ⟨rfl, rfl⟩
    · exact gives_field 36 (.tmp 7) 5 (op_of ho (by kernel_rfl)) (seq_old (by kernel_rfl) h7) (field70 ob) ⟨rfl, rfl⟩
    · have e5 : θ 5 = .pointer (some ⟨ob, 70, none⟩) := hT 5 (by decide) (by decide) (by decide) (by decide) (by decide) (by kernel_rfl)
      exact gives_load_cell 9 (.tmp 74) (op_of ho (by kernel_rfl)) ob 70 (seq_at (by kernel_rfl) (hsz _ (by decide)) e5) _ box _ ((hB.block ob hlb).trans hbox) hb _ Tryz.underlying9 rfl ⟨rfl, rfl⟩
    · exact gives_move (.tmp 5) (op_of ho (by kernel_rfl)) (seq_old (by kernel_rfl) h5) ⟨rfl, rfl⟩
    · exact gives_move (.tmp 10) (op_of ho (by kernel_rfl)) (seq_old (by kernel_rfl) h10) ⟨rfl, rfl⟩
    · have e9 : θ 9 = .slice A K.length c := hT 9 (by decide) (by decide) (by decide) (by decide) (by decide) (by kernel_rfl)
      have e10 : θ 10 = .int .i64 (m : Int) := hT 10 (by decide) (by decide) (by decide) (by decide) (by decide) (by kernel_rfl)
      exact gives_cut 43 (.tmp 78) (some (.tmp 79)) none none (op_of ho (by kernel_rfl)) _ _ _ _ (seq_at (by kernel_rfl) (hsz _ (by decide)) e9) (congrArg some (seq_at (by kernel_rfl) (hsz _ (by decide)) e10)) rfl rfl _ (cut_l A K.length c m hm W) ⟨rfl, rfl⟩
  · intro o ho θ W
    exact gives_slice 43 0 #[] (op_of ho (by kernel_rfl)) #[] (by simp) #[] 9 (make0 W) ⟨rfl, rfl⟩
  · intro o ho θ W hB hT hrow
    have e3 : θ 3 = sliced A 0 m c 1 := hT 3 (by decide) (by decide) (by decide) (by decide) (by decide) (by kernel_rfl)
    obtain ⟨A', es, hA', hcells⟩ := sin_ahead (hK.move hB) m c hm
    rw [es] at e3
    refine gives_append_any (.tmp 69) (.tmp 72) 43 9 (op_of ho (by kernel_rfl)) w0.heap.size inf (.string ⟨#[]⟩) 1 16 Tryz.underlying43 hi1 hi2 hi3 hi4 rfl (by decide) (θ 0) 0 [] (seq_at (by kernel_rfl) (hsz _ (by decide)) rfl) hrow A' m c ((K.take m).map encStr) (seq_at (by kernel_rfl) (hsz _ (by decide)) e3) (by rw [List.length_map, List.length_take]; omega) hA' hcells (hone _) (by simp only [maxLen]; omega) (by omega) hB.size (fun v' w' h1 h2 h3 => ?_)
    rw [Nat.zero_add, List.nil_append] at h1
    exact ⟨h1, h2, h3⟩
  · intro o ho θ W hB hT
    have e6 : θ 6 = .string (kb key) := hT 6 (by decide) (by decide) (by decide) (by decide) (by decide) (by kernel_rfl)
    exact gives_slice 43 1 #[(0, .tmp 75)] (op_of ho (by kernel_rfl)) #[(0, .string (kb key))] (by rw [← e6]; simp only [List.map_toArray, List.map_cons, List.map_nil]; rw [seq_at (j := 6) (by kernel_rfl) (hsz _ (by decide)) rfl]) #[.string (kb key)] 9 (make1 _ W) ⟨rfl, rfl⟩
  · intro o ho θ W b hB hrow e2 hcell
    refine gives_append (.tmp 73) (.tmp 76) 43 9 (op_of ho (by kernel_rfl)) w0.heap.size inf (.string ⟨#[]⟩) 1 16 Tryz.underlying43 hi1 hi2 hi3 hi4 rfl (by decide) (θ 4) m ((K.take m).map encStr) (seq_at (by kernel_rfl) (hsz _ (by decide)) rfl) hrow b 1 1 #[.string (kb key)] (0, 0) 9 (seq_at (by kernel_rfl) (hsz _ (by decide)) e2) rfl hcell (by intro u hu; simp at hu; subst hu; rfl) (by simp only [maxLen]; omega) (by omega) hB.size (fun v' w' h1 h2 h3 => ⟨h1, h2, h3⟩)
  · intro θ W hB hT hrow
    have e11 : θ 11 = sliced A m K.length c 1 := hT 11 (by decide) (by decide) (by decide) (by decide) (by decide)
    obtain ⟨A', es, hA', hcells⟩ := sin_behind (hK.move hB) m c hm hc
    rw [es] at e11
    have hl : 12 < keys12.toList.length := of_decide_eq_true (by kernel_rfl)
    have ho : keys12[12]? = some keys12.toList[12] := by rw [← Array.getElem?_toList]; exact List.getElem?_eq_getElem hl
    rw [List.drop_eq_getElem_cons hl]
    refine BigFrame.wpList_want (want_of ho (by kernel_rfl) _) fun K' hK' => ?_
    refine gives_wp (R := fun v w' => wpList Tryz.prog keys12 Q (keys12.toList.drop 13) ((seqTo keys12 θ a0 12).put (keys12.toList[12]).dst v) w') (gives_append_any (.tmp 77) (.tmp 80) 43 9 (op_of ho (by kernel_rfl)) w0.heap.size inf (.string ⟨#[]⟩) 1 16 Tryz.underlying43 hi1 hi2 hi3 hi4 rfl (by decide) (θ 8) (m + 1) _ (seq_at (by kernel_rfl) (hsz _ (by decide)) rfl) hrow A' (K.length - m) (c - m) ((K.drop m).map encStr) (seq_at (by kernel_rfl) (hsz _ (by decide)) e11) (by rw [List.length_map, List.length_drop]; omega) hA' hcells (hone _) (by simp only [maxLen]; omega) (by omega) hB.size (fun v' w' h1 h2 h3 => ?_)) (fun v w' h => hK' _ _ h)
    have hd : dstOf keys12 12 = (keys12.toList[12]).dst := by simp only [dstOf, ho, Option.bind_some]
    have hE := hend (updV θ 12 v') w' (by
      rw [updV_same, show K.length + 1 = m + 1 + (K.length - m) by omega, List.map_append, List.map_cons, List.append_cons]
      exact h1) (hB.trans (below_of_grown h2 hB.size (fun k hk => (owns_base hrow hk).1)))
    have e : seqTo keys12 (updV θ 12 v') a0 13 = (seqTo keys12 θ a0 12).put (keys12.toList[12]).dst v' := by
      show (seqTo keys12 (updV θ 12 v') a0 12).put (dstOf keys12 12) (updV θ 12 v' 12) = _
      rw [seqTo_congr _ θ a0 12 (fun j hj => updV_ne _ _ (by omega)), updV_same, hd]
    rw [← e]
    exact hE
end Go.Proofs.YteplcnpmdjdlkaaGreatDoor
