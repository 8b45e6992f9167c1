/-
  The plain law of ranks: one's rank is the reference's; an order by ranks is whole, and keeps what clashes in its places. No condition of its own.
-/
import Derived.Test.YtchfecmabhfooaaDoorClash15
set_option linter.unusedSimpArgs false
set_option linter.unusedVariables false
namespace Go.Proofs.YtchfecmabhfooaaDoor

theorem getD_set (rs : List Nat) (n v j : Nat) : (rs.set n v).getD j 0 = if n = j ∧ j < rs.length then v else rs.getD j 0 := by
  rw [List.getD_eq_getElem?_getD, List.getD_eq_getElem?_getD, List.getElem?_set]
  by_cases h : n = j
  · subst h
    by_cases h2 : n < rs.length
    · simp [h2]
    · simp [h2]
  · simp [h]
theorem kIn_append (n : Nat) (a b rs : List Nat) : kIn n (a ++ b) rs = kIn n b (kIn n a rs) := by simp [kIn, List.foldl_append]
theorem kIn_one (n k : Nat) (rs : List Nat) : kIn n [k] rs = rs.set n (max (rs.getD n 0) (rs.getD k 0 + 1)) := rfl
theorem in_agree (p : Nat → Nat → Bool) (n M : Nat) (rs rs' : List Nat) (hn : n < M) (hM : M ≤ rs.length) (hM' : M ≤ rs'.length) (h : ∀ j, j < M → rs.getD j 0 = rs'.getD j 0) :
    ∀ k, k ≤ n → ∀ j, j < M → (rIn p n k rs).getD j 0 = (kIn n ((List.range k).filter fun j => p j n) rs').getD j 0
  | 0, _, j, hj => h j hj
  | k + 1, hk, j, hj => by
    have ih := in_agree p n M rs rs' hn hM hM' h k (by omega)
    have l1 := rIn_len p n k rs
    have l2 := kIn_len n ((List.range k).filter fun j => p j n) rs'
    rw [List.range_succ, List.filter_append, kIn_append]
    conv => lhs; unfold rIn
    generalize rIn p n k rs = R at ih l1 ⊢
    generalize kIn n ((List.range k).filter fun j => p j n) rs' = K at ih l2 ⊢
    have i1 := ih n hn
    have i2 := ih k (by omega)
    have i3 := ih j hj
    by_cases hp : p k n
    · rw [List.filter_cons, if_pos hp, List.filter_nil, kIn_one]
      by_cases hle : R.getD n 0 ≤ R.getD k 0
      · rw [if_pos (by simp only [hp, Bool.true_and]; exact decide_eq_true hle), getD_set, getD_set]
        by_cases hnj : n = j
        · rw [if_pos ⟨hnj, by omega⟩, if_pos ⟨hnj, by omega⟩]; omega
        · rw [if_neg (fun h => hnj h.1), if_neg (fun h => hnj h.1)]; exact i3
      · rw [if_neg (by simp only [hp, Bool.true_and]; exact fun h => hle (of_decide_eq_true h)), getD_set]
        by_cases hnj : n = j
        · rw [if_pos ⟨hnj, by omega⟩]; subst hnj; omega
        · rw [if_neg (fun h => hnj h.1)]; exact i3
    · rw [List.filter_cons, if_neg hp, List.filter_nil, if_neg (by simp [hp])]
      exact i3
theorem out_agree (L : List Want2) (m m' M : Nat) (hm : M ≤ m) (hm' : M ≤ m') : ∀ n, n ≤ M → ∀ j, j < M → (rOut (pairW L) m n).getD j 0 = (kOut (aheadL L) m' n).getD j 0
  | 0, _, j, hj => by
    have h1 : j < m := by omega
    have h2 : j < m' := by omega
    simp [rOut, kOut, List.getD_eq_getElem?_getD, List.getElem?_replicate, h1, h2]
  | n + 1, hn, j, hj => by
    have ih := out_agree L m m' M hm hm' n (by omega)
    have h1 := rOut_len (pairW L) m n
    have h2 := kOut_len (aheadL L) m' n
    unfold rOut kOut
    exact in_agree (pairW L) n M _ _ (by omega) (by omega) (by omega) ih n (Nat.le_refl _) j hj
theorem kIn_other (i j : Nat) (h : j ≠ i) : ∀ (ks rs : List Nat), (kIn i ks rs).getD j 0 = rs.getD j 0
  | [], rs => rfl
  | k :: ks, rs => by
    have := kIn_other i j h ks (rs.set i (max (rs.getD i 0) (rs.getD k 0 + 1)))
    rw [getD_set, if_neg (fun e => h e.1.symm)] at this
    exact this
theorem kOut_stay (f : Nat → List Nat) (m i : Nat) : ∀ d, (kOut f m (i + 1 + d)).getD i 0 = (kOut f m (i + 1)).getD i 0
  | 0 => rfl
  | d + 1 => by
    have := kOut_stay f m i d
    rw [← this]
    show (kIn (i + 1 + d) _ _).getD i 0 = _
    exact kIn_other _ _ (by omega) _ _
def rkL (L : List Want2) (i : Nat) : Nat := (kOut (aheadL L) L.length L.length).getD i 0
theorem rkL_at (L : List Want2) (i n : Nat) (hi : i < n) (hn : n ≤ L.length) : (kOut (aheadL L) L.length n).getD i 0 = rkL L i := by
  have h1 := kOut_stay (aheadL L) L.length i (n - (i + 1))
  have h2 := kOut_stay (aheadL L) L.length i (L.length - (i + 1))
  rw [show i + 1 + (n - (i + 1)) = n by omega] at h1
  rw [show i + 1 + (L.length - (i + 1)) = L.length by omega] at h2
  exact h1.trans h2.symm
/-- One's rank is the reference's. -/
theorem rk_rank (L : List Want2) (i : Nat) (hi : i < L.length) : rkL L i = rankL L i := by
  rw [← rkL_at L i (i + 1) (by omega) (by omega)]
  exact (out_agree L (i + 1) L.length (i + 1) (Nat.le_refl _) (by omega) (i + 1) (Nat.le_refl _) i (by omega)).symm
theorem kIn_ge (i : Nat) : ∀ (ks rs : List Nat), i < rs.length → rs.getD i 0 ≤ (kIn i ks rs).getD i 0
  | [], rs, _ => Nat.le_refl _
  | k :: ks, rs, hi => by
    have := kIn_ge i ks (rs.set i (max (rs.getD i 0) (rs.getD k 0 + 1))) (by simpa using hi)
    rw [getD_set, if_pos ⟨rfl, hi⟩] at this
    have e : kIn i (k :: ks) rs = kIn i ks (rs.set i (max (rs.getD i 0) (rs.getD k 0 + 1))) := rfl
    rw [e]
    omega
theorem kIn_above (i : Nat) : ∀ (ks rs : List Nat), i < rs.length → ∀ k ∈ ks, k ≠ i → rs.getD k 0 < (kIn i ks rs).getD i 0
  | k0 :: ks, rs, hi, k, hk, hki => by
    have hi' : i < (rs.set i (max (rs.getD i 0) (rs.getD k0 0 + 1))).length := by simpa using hi
    rcases List.mem_cons.1 hk with rfl | hk
    · have := kIn_ge i ks (rs.set i (max (rs.getD i 0) (rs.getD k 0 + 1))) hi'
      rw [getD_set, if_pos ⟨rfl, hi⟩] at this
      have e : kIn i (k :: ks) rs = kIn i ks (rs.set i (max (rs.getD i 0) (rs.getD k 0 + 1))) := rfl
      rw [e]
      omega
    · have := kIn_above i ks (rs.set i (max (rs.getD i 0) (rs.getD k0 0 + 1))) hi' k hk hki
      rw [getD_set, if_neg (fun e => hki e.1.symm)] at this
      exact this
theorem rk_above (L : List Want2) (i k : Nat) (hi : i < L.length) (hk : k ∈ aheadL L i) : rkL L k < rkL L i := by
  have hlt : k < i := flt_mem hk
  rw [← rkL_at L i (i + 1) (by omega) (by omega), ← rkL_at L k i hlt (by omega)]
  exact kIn_above i _ _ (by rw [kOut_len]; exact hi) k hk (by omega)
theorem rk_low (L : List Want2) (i : Nat) : rkL L i ≤ i := kOut_low (aheadL L) L.length (fun i k hk => flt_mem hk) L.length i
theorem mem_ahead {L : List Want2} {k i : Nat} (h : k < i) (hp : pairW L k i = true) : k ∈ aheadL L i := List.mem_filter.2 ⟨List.mem_range.2 h, hp⟩
/-- Those of one rank don't clash. -/
theorem rk_apart (L : List Want2) (i k : Nat) (hi : i < L.length) (hk : k < i) (h : rkL L k = rkL L i) : pairW L k i = false := by
  cases hp : pairW L k i
  · rfl
  · have := rk_above L i k hi (mem_ahead hk hp); omega
/-- Of one list that is whole, where each stands. -/
theorem plc_get (os : List Nat) (n : Nat) (h : WholeO os n) : ∀ j, j ≤ n → ∀ q, q < j → (plc os n j).getD (os.getD q 0) 0 = (q : Int)
  | 0, _, q, hq => absurd hq (by omega)
  | j + 1, hj, q, hq => by
    have hl := h.1
    have hq2 : q < os.length := by omega
    have hj2 : j < os.length := by omega
    have hlen := plc_len os n j
    have hm := h.2.2 os[j] (List.getElem_mem hj2)
    unfold plc
    simp only [List.getD_eq_getElem?_getD (l := os), List.getElem?_eq_getElem hq2, List.getElem?_eq_getElem hj2, Option.getD_some]
    rw [List.getD_eq_getElem?_getD, List.getElem?_set]
    by_cases e : q = j
    · subst e
      rw [if_pos rfl, if_pos (by omega)]; rfl
    · rw [if_neg fun he => e (nodup_inj h.2.1 he).symm]
      have ih := plc_get os n h j (by omega) q (by omega)
      rw [List.getD_eq_getElem?_getD (l := os), List.getElem?_eq_getElem hq2] at ih
      rw [List.getD_eq_getElem?_getD] at ih
      exact ih
/-- Those of a rank, the last one first. -/
def ofRank (L : List Want2) (r : Nat) : List Nat := (List.range L.length).reverse.filter fun i => Nat.beq (rkL L i) r
def byRank (L : List Want2) (n : Nat) : List Nat := (List.range n).flatMap (ofRank L)
theorem mem_ofRank {L : List Want2} {r i : Nat} : i ∈ ofRank L r ↔ i < L.length ∧ rkL L i = r := by
  simp [ofRank, List.mem_filter]
theorem byRank_nodup (L : List Want2) (n : Nat) : (byRank L n).Nodup := by
  unfold byRank List.Nodup
  rw [List.pairwise_flatMap]
  refine ⟨fun r _ => ?_, ?_⟩
  · have : (ofRank L r).Nodup := List.Nodup.sublist List.filter_sublist (List.pairwise_reverse.2 (List.Pairwise.imp (fun h => Ne.symm h) List.nodup_range))
    exact this
  · refine List.Pairwise.imp (R := (· < ·)) (fun {a b} hab x hx y hy => ?_) List.pairwise_lt_range
    have h1 := mem_ofRank.1 hx
    have h2 := mem_ofRank.1 hy
    intro e; subst e; omega
theorem byRank_up (L : List Want2) (n : Nat) : (byRank L n).Pairwise fun a b => rkL L a ≤ rkL L b := by
  unfold byRank
  rw [List.pairwise_flatMap]
  refine ⟨fun r _ => ?_, ?_⟩
  · refine List.pairwise_iff_forall_sublist.2 fun {a b} hs => ?_
    have h1 := mem_ofRank.1 (hs.mem (by simp : a ∈ [a, b]))
    have h2 := mem_ofRank.1 (hs.mem (by simp : b ∈ [a, b]))
    omega
  · refine List.Pairwise.imp (R := (· < ·)) (fun {a b} hab x hx y hy => ?_) List.pairwise_lt_range
    have h1 := mem_ofRank.1 hx
    have h2 := mem_ofRank.1 hy
    omega
theorem mem_byRank (L : List Want2) (i : Nat) : i ∈ byRank L L.length ↔ i < L.length := by
  unfold byRank
  rw [List.mem_flatMap]
  constructor
  · rintro ⟨r, _, h⟩; exact (mem_ofRank.1 h).1
  · intro h
    have := rk_low L i
    exact ⟨rkL L i, List.mem_range.2 (by omega), mem_ofRank.2 ⟨h, rfl⟩⟩
theorem byRank_whole (L : List Want2) : WholeO (byRank L L.length) L.length := by
  refine ⟨?_, byRank_nodup L _, fun k hk => (mem_byRank L k).1 hk⟩
  have hp : (byRank L L.length).Perm (List.range L.length) := (List.perm_ext_iff_of_nodup (byRank_nodup L _) List.nodup_range).2 fun a => by rw [mem_byRank, List.mem_range]
  simpa using hp.length_eq
/-- In the order of ranks nothing that clashes changes places. -/
theorem byRank_keeps (L : List Want2) : keepsO L (byRank L L.length) = true := by
  have hw := byRank_whole L
  unfold keepsO
  rw [List.all_eq_true]
  intro i hi
  have hi := List.mem_range.1 hi
  rw [Bool.not_eq_true', List.any_eq_false]
  intro k hk hlt
  have hki : k < i := flt_mem hk
  have hr := rk_above L i k hi hk
  obtain ⟨qi, hqi, ei⟩ := List.getElem_of_mem ((mem_byRank L i).2 hi)
  obtain ⟨qk, hqk, ek⟩ := List.getElem_of_mem ((mem_byRank L k).2 (by omega))
  have g1 := plc_get _ _ hw L.length (Nat.le_refl _) qi (by rw [← hw.1]; exact hqi)
  have g2 := plc_get _ _ hw L.length (Nat.le_refl _) qk (by rw [← hw.1]; exact hqk)
  rw [List.getD_eq_getElem?_getD (l := byRank L L.length), List.getElem?_eq_getElem hqi, ei] at g1
  rw [List.getD_eq_getElem?_getD (l := byRank L L.length), List.getElem?_eq_getElem hqk, ek] at g2
  simp only [Option.getD_some] at g1 g2
  have hlt' := of_decide_eq_true hlt
  rw [g1, g2] at hlt'
  have := List.pairwise_iff_getElem.1 (byRank_up L L.length) qi qk hqi hqk (by omega)
  rw [ei, ek] at this
  omega
/-- The next one ahead. -/
theorem flt_at (L : List Want2) (i k : Nat) (h : k < i) (hp : pairW L k i = true) : (aheadL L i)[(flt L i k).length]? = some k := by
  have hr : List.range i = List.range (k + 1) ++ (List.range' (k + 1) (i - (k + 1))) := by
    have := @List.range'_append_1 0 (k + 1) (i - (k + 1))
    rw [Nat.zero_add] at this
    rw [List.range_eq_range', List.range_eq_range', this]
    congr 1
    omega
  unfold aheadL
  have e : flt L i i = flt L i (k + 1) ++ (List.range' (k + 1) (i - (k + 1))).filter fun j => pairW L j i := by
    unfold flt
    conv => lhs; rw [hr]
    rw [List.filter_append]
  have e2 := flt_succ L i k
  rw [if_pos hp] at e2
  rw [e, e2, List.append_assoc, List.getElem?_append_right (Nat.le_refl _)]
  simp
theorem flt_le (L : List Want2) (i k : Nat) (h : k ≤ i) : (flt L i k).length ≤ (aheadL L i).length := by
  have hr : List.range i = List.range k ++ (List.range' k (i - k)) := by
    have := @List.range'_append_1 0 k (i - k)
    rw [Nat.zero_add] at this
    rw [List.range_eq_range', List.range_eq_range', this]
    congr 1
    omega
  unfold aheadL flt
  conv => rhs; rw [hr]
  rw [List.filter_append, List.length_append]
  omega
end Go.Proofs.YtchfecmabhfooaaDoor
