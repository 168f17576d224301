/- Plain: over all draws what is kept counts for no more than all, on average. -/
import Derived.Test.YthlmgamdnclmhaaPP
namespace Go.Proofs.Ythlmgamdnclmhaa.A
open Go Go.Proofs.Ythlmgamdnclmhaa.R
set_option linter.unusedVariables false
/-- The sum of the first values. -/
def sm : Nat → (Nat → Int) → Int
  | 0, _ => 0
  | n + 1, f => sm n f + f n
theorem sm_le {f g : Nat → Int} : ∀ (n : Nat), (∀ i, i < n → f i ≤ g i) → sm n f ≤ sm n g
  | 0, _ => Int.le_refl _
  | n + 1, h => Int.add_le_add (sm_le n (fun i hi => h i (by omega))) (h n (by omega))
theorem sm_congr {f g : Nat → Int} : ∀ (n : Nat), (∀ i, i < n → f i = g i) → sm n f = sm n g
  | 0, _ => rfl
  | n + 1, h => by rw [sm, sm, sm_congr n (fun i hi => h i (by omega)), h n (by omega)]
theorem sm_const (c : Int) : ∀ n : Nat, sm n (fun _ => c) = n * c
  | 0 => by rw [sm]; simp
  | n + 1 => by rw [sm, sm_const c n, Int.natCast_add, Int.add_mul]; simp
theorem sm_add (f g : Nat → Int) : ∀ n : Nat, sm n (fun i => f i + g i) = sm n f + sm n g
  | 0 => by simp [sm]
  | n + 1 => by rw [sm, sm, sm, sm_add f g n]; omega
theorem sm_zero : ∀ n : Nat, sm n (fun _ => 0) = 0
  | 0 => rfl
  | n + 1 => by rw [sm, sm_zero n]; rfl
theorem sm_swap (f : Nat → Nat → Int) (b : Nat) : ∀ a : Nat, sm a (fun i => sm b (f i)) = sm b (fun j => sm a (fun i => f i j))
  | 0 => by simp only [sm]; rw [sm_zero]
  | a + 1 => by simp only [sm]; rw [sm_swap f b a, sm_add]
theorem sm_plus (f : Nat → Int) (c : Nat) : ∀ b : Nat, sm (c + b) f = sm c f + sm b (fun r => f (c + r))
  | 0 => by simp [sm]
  | b + 1 => by rw [← Nat.add_assoc, sm, sm, sm_plus f c b]; omega
theorem sm_blocks (f : Nat → Int) (b : Nat) : ∀ a : Nat, sm (a * b) f = sm a (fun q => sm b (fun r => f (q * b + r)))
  | 0 => by rw [Nat.zero_mul]; rfl
  | a + 1 => by rw [Nat.succ_mul, sm_plus, sm_blocks f b a, sm]
theorem sm_scale (c : Int) (f : Nat → Int) : ∀ n : Nat, sm n (fun i => c * f i) = c * sm n f
  | 0 => by simp [sm]
  | n + 1 => by rw [sm, sm, sm_scale c f n, Int.mul_add]
theorem sm_nonneg {f : Nat → Int} (n : Nat) (h : ∀ i, i < n → 0 ≤ f i) : 0 ≤ sm n f := by
  rw [← sm_zero n]; exact sm_le n h

/-- Offers of some weights, by some draws. -/
def lo (W : Nat → Int) (d : Nat → Nat) : Nat → List O
  | 0 => []
  | n + 1 => lo W d n ++ [⟨W n, (d n : Int), (n : Int)⟩]
def up (d : Nat → Nat) (i x j : Nat) : Nat := if j = i then x else d j
theorem lo_len (W : Nat → Int) (d : Nat → Nat) : ∀ n, (lo W d n).length = n
  | 0 => rfl
  | n + 1 => by rw [lo, List.length_append, lo_len W d n]; rfl
theorem lo_congr {W : Nat → Int} {d e : Nat → Nat} : ∀ (n : Nat), (∀ j, j < n → d j = e j) → lo W d n = lo W e n
  | 0, _ => rfl
  | n + 1, h => by rw [lo, lo, lo_congr n (fun j hj => h j (by omega)), h n (by omega)]
theorem lo_get (W : Nat → Int) (d : Nat → Nat) : ∀ (n i : Nat), i < n → (lo W d n)[i]? = some ⟨W i, (d i : Int), (i : Int)⟩
  | n + 1, i, h => by
    rw [lo]
    rcases Nat.lt_or_ge i n with h1 | h1
    · rw [List.getElem?_append_left (by rw [lo_len]; exact h1)]
      exact lo_get W d n i h1
    · obtain rfl : i = n := by omega
      rw [List.getElem?_append_right (by rw [lo_len]; exact Nat.le_refl _), lo_len, Nat.sub_self]
      rfl
theorem lo_mem {W : Nat → Int} {d : Nat → Nat} {n : Nat} {o : O} (h : o ∈ lo W d n) : ∃ i, i < n ∧ o = ⟨W i, (d i : Int), (i : Int)⟩ := by
  obtain ⟨i, hi, rfl⟩ := List.getElem_of_mem h
  rw [lo_len] at hi
  have := lo_get W d n i hi
  rw [List.getElem?_eq_getElem (by rw [lo_len]; exact hi)] at this
  exact ⟨i, hi, Option.some.inj this⟩
theorem lo_places (W : Nat → Int) (d : Nat → Nat) (n : Nat) : Places (lo W d n) := fun i o h => by
  have hi : i < n := by rw [← lo_len W d n]; exact (List.getElem?_eq_some_iff.1 h).1
  rw [lo_get W d n i hi] at h
  rw [← Option.some.inj h]
theorem lo_split (W : Nat → Int) (d : Nat → Nat) (i : Nat) : ∀ n, i < n → ∃ T : List O, ∀ x : Nat, lo W (up d i x) n = lo W d i ++ ⟨W i, (x : Int), (i : Int)⟩ :: T
  | n + 1, h => by
    rcases Nat.lt_or_ge i n with h1 | h1
    · obtain ⟨T, hT⟩ := lo_split W d i n h1
      refine ⟨T ++ [⟨W n, (d n : Int), (n : Int)⟩], fun x => ?_⟩
      rw [lo, hT x]
      have : up d i x n = d n := by unfold up; rw [if_neg (by omega)]
      rw [this]
      simp
    · obtain rfl : i = n := by omega
      refine ⟨[], fun x => ?_⟩
      have e : up d i x i = x := by unfold up; rw [if_pos rfl]
      rw [lo, e, lo_congr (e := d) i (fun j hj => by unfold up; rw [if_neg (by omega)])]

theorem rank_mid (A B : List O) (o y : O) : rank (A ++ o :: B) y = rank (A ++ B) y + if aboveB o y then 1 else 0 := by
  rw [rank_append, rank_append]
  unfold rank
  rw [List.countP_cons]
  omega
theorem rank_lt_of_above {L : List O} (hok : AllOk L) {a b : O} (ha : a ∈ L) (hb : Ok b) (h : aboveB a b = true) : rank L a < rank L b := by
  obtain ⟨A, B, rfl⟩ := List.append_of_mem ha
  rw [rank_mid, rank_mid, above_irrefl, h]
  have : rank (A ++ B) a ≤ rank (A ++ B) b := by
    unfold rank
    refine List.countP_mono_left (fun z hz hza => ?_)
    refine above_trans (hok z ?_) (hok a (by simp)) hb hza h
    rcases List.mem_append.1 hz with h1 | h1
    · exact List.mem_append_left _ h1
    · exact List.mem_append_right _ (List.mem_cons_of_mem _ h1)
  simp
  omega

/-- For how much one counts, with one that is not kept. -/
theorem tell_val (m den : Int) (o z : O) (hm : 1 ≤ m) (hm5 : m ≤ 5) (ho : 1 ≤ o.f0 ∧ o.f0 ≤ 30) (hz : 0 ≤ z.f0 ∧ z.f0 ≤ 30) (hzd : 0 ≤ z.f1 ∧ z.f1 + 1 ≤ m) (hdiv : (z.f1 + 1) ∣ den) (hden : 0 < den) :
    0 < (tellK true m z o).f2 ∧ (tellK true m z o).f2 ∣ den ∧ o.f0 * (tellK true m z o).f2 ≤ (tellK true m z o).f1 ∧ (tellK true m z o).f1 ≤ 150 ∧ (tellK true m z o).f2 ≤ 5 ∧
    ((z.f0 * m ≤ o.f0 * (z.f1 + 1) ∧ den / (tellK true m z o).f2 * (tellK true m z o).f1 = den * o.f0) ∨ (o.f0 * (z.f1 + 1) < z.f0 * m ∧ den / (tellK true m z o).f2 * (tellK true m z o).f1 * (z.f1 + 1) = den * (z.f0 * m))) := by
  have hall : allW m z.f0 = z.f0 * m := by unfold allW; rw [if_neg (by omega)]
  have hb : 0 ≤ z.f0 * m ∧ z.f0 * m ≤ 150 := by
    refine ⟨Int.mul_nonneg hz.1 (by omega), ?_⟩
    exact Int.le_trans (Int.mul_le_mul_of_nonneg_left hm5 hz.1) (by omega)
  unfold tellK
  rw [if_pos rfl]
  unfold countsV
  rw [hall]
  by_cases hc : z.f0 * m ≤ o.f0 * (z.f1 + 1)
  · simp only [if_pos hc]
    refine ⟨by decide, Int.one_dvd _, by omega, by omega, by decide, .inl ⟨hc, by rw [Int.ediv_one]⟩⟩
  · have hc' : o.f0 * (z.f1 + 1) < z.f0 * m := Int.not_le.1 hc
    have hk : ¬ z.f1 + 1 = K64 := by unfold K64; omega
    simp only [if_neg hc, if_neg hk]
    obtain ⟨t, ht⟩ : ∃ t, t = z.f1 + 1 := ⟨_, rfl⟩
    rw [← ht] at hdiv hc' ⊢
    have ht1 : 1 ≤ t := by omega
    have ht5 : t ≤ 5 := by omega
    obtain ⟨A, hA⟩ : ∃ A, A = z.f0 * m := ⟨_, rfl⟩
    rw [← hA] at hb hc' ⊢
    have hg1 : ((Int.gcd t (A % t) : Nat) : Int) ∣ t := Int.gcd_dvd_left ..
    have hg2 : ((Int.gcd t (A % t) : Nat) : Int) ∣ A := by
      have h1 : ((Int.gcd t (A % t) : Nat) : Int) ∣ A % t := Int.gcd_dvd_right ..
      have h2 := Int.emod_add_mul_ediv A t
      have h3 := Int.dvd_add h1 (Int.dvd_trans hg1 (Int.dvd_mul_right t (A / t)))
      rwa [h2] at h3
    have hg0 : 0 < ((Int.gcd t (A % t) : Nat) : Int) := by
      have : 0 < Int.gcd t (A % t) := Int.gcd_pos_of_ne_zero_left _ (by omega)
      omega
    generalize ((Int.gcd t (A % t) : Nat) : Int) = g at hg0 hg1 hg2
    obtain ⟨D, hD⟩ := hg1
    obtain ⟨N, hN⟩ := hg2
    have e1 : t / g = D := by rw [hD]; exact Int.mul_ediv_cancel_left _ (by omega)
    have e2 : A / g = N := by rw [hN]; exact Int.mul_ediv_cancel_left _ (by omega)
    have hD0 : 0 < D := by
      rcases Int.lt_or_le 0 D with h | h
      · exact h
      · have := Int.mul_nonneg (Int.le_of_lt hg0) (show 0 ≤ -D by omega)
        rw [Int.mul_neg] at this
        omega
    have hN0 : 0 ≤ N := by
      rcases Int.lt_or_le N 0 with h | h
      · have := Int.mul_pos hg0 (show 0 < -N by omega)
        rw [Int.mul_neg] at this
        omega
      · exact h
    have hNA : N ≤ A := by
      rw [hN]
      have := Int.mul_le_mul_of_nonneg_right (show 1 ≤ g by omega) hN0
      omega
    have hDt : D ≤ t := by
      rw [hD]
      have := Int.mul_le_mul_of_nonneg_right (show 1 ≤ g by omega) (Int.le_of_lt hD0)
      omega
    have hcl : clip N = N := by unfold clip; rw [if_pos (by unfold K64; omega)]
    rw [e1, e2, hcl]
    have hDd : D ∣ den := Int.dvd_trans ⟨g, by rw [hD, Int.mul_comm]⟩ hdiv
    refine ⟨hD0, hDd, ?_, by omega, by omega, .inr ⟨hc', ?_⟩⟩
    · have h1 : g * (o.f0 * D) < g * N := by
        rw [← hN, Int.mul_left_comm, ← hD]; exact hc'
      exact Int.le_of_lt (Int.lt_of_mul_lt_mul_left h1 (Int.le_of_lt hg0))
    · rw [hD, hN]
      have : den / D * D = den := Int.ediv_mul_cancel hDd
      calc den / D * N * (g * D) = (den / D * D) * (g * N) := by ac_rfl
        _ = den * (g * N) := by rw [this]

theorem lo_ok {W : Nat → Int} {d : Nat → Nat} {n m : Nat} (hW : ∀ j, 1 ≤ W j ∧ W j ≤ 30) (hm5 : m ≤ 5) (hd : ∀ j, d j < m) : AllOk (lo W d n) := fun o ho => by
  obtain ⟨j, _, rfl⟩ := lo_mem ho
  have h1 := hW j
  have h2 := hd j
  refine ⟨?_, ?_, ?_, ?_⟩
  · show 0 ≤ W j; omega
  · show W j < K64; unfold K64; omega
  · show (0 : Int) ≤ (d j : Int); omega
  · show (d j : Int) < K64; unfold K64; omega
/-- What one counts for, if it is kept, so many times. -/
def valI (k m den : Int) (W : Nat → Int) (d : Nat → Nat) (n i : Nat) : Int :=
  if (rank (lo W d n) ⟨W i, (d i : Int), (i : Int)⟩ : Int) < k then den / (tellK true m (barS k (lo W d n)) ⟨W i, (d i : Int), (i : Int)⟩).f2 * (tellK true m (barS k (lo W d n)) ⟨W i, (d i : Int), (i : Int)⟩).f1 else 0
theorem barS_eq {k : Int} {L : List O} {z : O} (hz : z ∈ L) (hr : (rank L z : Int) = k) (hu : ∀ y ∈ L, (rank L y : Int) = k → y = z) : barS k L = z := by
  unfold barS
  cases hfd : L.find? (fun o => decide ((rank L o : Int) = k)) with
  | none =>
    rw [List.find?_eq_none] at hfd
    have := hfd z hz
    rw [decide_eq_true hr] at this
    exact absurd rfl this
  | some o => exact hu o (List.mem_of_find?_eq_some hfd) (of_decide_eq_true (List.find?_some (p := fun o => decide ((rank L o : Int) = k)) hfd))
theorem barS_none {k : Int} {L : List O} (hu : ∀ y ∈ L, ¬ (rank L y : Int) = k) : barS k L = zO := by
  unfold barS
  have : L.find? (fun o => decide ((rank L o : Int) = k)) = none := by
    rw [List.find?_eq_none]
    intro y hy
    rw [decide_eq_false (hu y hy)]
    simp
  rw [this]
  rfl
theorem count_scale (z R C : Int) (hz : 0 ≤ z) (hR : 0 ≤ R) : ∀ n : Nat, ∃ q : Int, 0 ≤ q ∧ sm n (fun x => if z * ((x : Int) + 1) ≤ R then C else 0) = q * C ∧ q * z ≤ R ∧ q ≤ n
  | 0 => ⟨0, by omega, by rw [sm]; omega, by omega, by omega⟩
  | n + 1 => by
    obtain ⟨q, h0, h1, h2, h3⟩ := count_scale z R C hz hR n
    rw [sm, h1]
    by_cases h : z * ((n : Int) + 1) ≤ R
    · refine ⟨q + 1, by omega, by rw [if_pos h, Int.add_mul]; omega, ?_, by omega⟩
      refine Int.le_trans ?_ h
      rw [Int.mul_comm]
      exact Int.mul_le_mul_of_nonneg_left (by omega) hz
    · exact ⟨q, h0, by rw [if_neg h]; omega, h2, by omega⟩
theorem rank_uniq {L : List O} (hok : AllOk L) (hp : L.Pairwise (fun a b => a.f2 ≠ b.f2)) {a b : O} (ha : a ∈ L) (hb : b ∈ L) (h : rank L a = rank L b) : a = b := by
  by_cases he : a.f2 = b.f2
  · obtain ⟨i, hi, rfl⟩ := List.getElem_of_mem ha
    obtain ⟨j, hj, rfl⟩ := List.getElem_of_mem hb
    rw [List.pairwise_iff_getElem] at hp
    rcases Nat.lt_trichotomy i j with h1 | h1 | h1
    · exact absurd he (hp i j hi hj h1)
    · subst h1; rfl
    · exact absurd he.symm (hp j i hj hi h1)
  · exfalso
    cases hab : aboveB a b with
    | true => have := rank_lt_of_above hok ha (hok b hb) hab; omega
    | false => have := rank_lt_of_above hok hb (hok a ha) (above_total he hab); omega

theorem mean_one (W : Nat → Int) (d : Nat → Nat) (n i m : Nat) (k den : Int) (hW : ∀ j, 1 ≤ W j ∧ W j ≤ 30) (hm : 1 ≤ m) (hm5 : m ≤ 5) (hd : ∀ j, d j < m) (hi : i < n)
    (hden : ∀ t : Int, 1 ≤ t → t ≤ m → t ∣ den) (hden0 : 0 < den) : sm m (fun x => valI k m den W (up d i x) n i) ≤ m * (W i * den) := by
  obtain ⟨T, hT⟩ := lo_split W d i n hi
  have hWi := hW i
  have hWd : 0 ≤ W i * den := Int.mul_nonneg (by omega) (by omega)
  have hupd : ∀ x, x < m → ∀ j, up d i x j < m := fun x hx j => by unfold up; split; exact hx; exact hd j
  have hoi : ∀ x, up d i x i = x := fun x => by unfold up; rw [if_pos rfl]
  have hok : ∀ x, x < m → AllOk (lo W (up d i x) n) := fun x hx => lo_ok hW hm5 (hupd x hx)
  have hne : ∀ x, (lo W (up d i x) n).Pairwise (fun a b => a.f2 ≠ b.f2) := fun x => (lo_places _ _ _).ne
  have hmemi : ∀ x : Nat, (⟨W i, (x : Int), (i : Int)⟩ : O) ∈ lo W (up d i x) n := fun x => by rw [hT x]; simp
  have hmR : ∀ (x : Nat) (y : O), y ∈ lo W d i ++ T → y ∈ lo W (up d i x) n := fun x y hy => by
    rw [hT x]
    rcases List.mem_append.1 hy with h | h
    · exact List.mem_append_left _ h
    · exact List.mem_append_right _ (List.mem_cons_of_mem _ h)
  have hfR : ∀ (y : O), y ∈ lo W d i ++ T → y.f2 ≠ i := fun y hy => by
    have h := hne 0
    rw [hT 0] at h
    rcases List.mem_append.1 hy with h1 | h1
    · exact (List.pairwise_append.1 h).2.2 y h1 ⟨W i, ((0 : Nat) : Int), (i : Int)⟩ (List.mem_cons_self ..)
    · have h2 := (List.pairwise_append.1 h).2.1
      rw [List.pairwise_cons] at h2
      exact Ne.symm (h2.1 y h1)
  have hokR : ∀ y ∈ lo W d i ++ T, Ok y ∧ 1 ≤ y.f0 ∧ y.f0 ≤ 30 ∧ 0 ≤ y.f1 ∧ y.f1 + 1 ≤ m := fun y hy => by
    have h0 := hmR 0 y hy
    refine ⟨hok 0 (by omega) y h0, ?_⟩
    obtain ⟨j, hj, rfl⟩ := lo_mem h0
    have := hupd 0 (by omega) j
    have := hW j
    refine ⟨?_, ?_, ?_, ?_⟩
    · show 1 ≤ W j; omega
    · show W j ≤ 30; omega
    · show (0 : Int) ≤ (up d i 0 j : Int); omega
    · show (up d i 0 j : Int) + 1 ≤ m; omega
  have hrk : ∀ (x : Nat) (y : O), rank (lo W (up d i x) n) y = rank (lo W d i ++ T) y + if aboveB ⟨W i, (x : Int), (i : Int)⟩ y then 1 else 0 := fun x y => by rw [hT x, rank_mid]
  have hrki : ∀ x : Nat, rank (lo W (up d i x) n) ⟨W i, (x : Int), (i : Int)⟩ = rank (lo W d i ++ T) ⟨W i, (x : Int), (i : Int)⟩ := fun x => by rw [hrk, above_irrefl]; simp
  by_cases hz : ∃ z, z ∈ lo W d i ++ T ∧ (rank (lo W d i ++ T) z : Int) + 1 = k
  · obtain ⟨z, hzR, hzk⟩ := hz
    obtain ⟨hzok, hz1, hz2, hz3, hz4⟩ := hokR z hzR
    have key : ∀ x : Nat, x < m → (rank (lo W (up d i x) n) ⟨W i, (x : Int), (i : Int)⟩ : Int) < k → barS k (lo W (up d i x) n) = z ∧ z.f0 * ((x : Int) + 1) ≤ W i * (z.f1 + 1) := fun x hx hlt => by
      have hx1 := hmR x z hzR
      have hab : aboveB ⟨W i, (x : Int), (i : Int)⟩ z = true := by
        cases hab : aboveB ⟨W i, (x : Int), (i : Int)⟩ z with
        | true => rfl
        | false =>
          have h1 := above_total (Ne.symm (hfR z hzR)) hab
          have h2 := rank_lt_of_above (hok x hx) hx1 (hok x hx _ (hmemi x)) h1
          rw [hrk x z, hab] at h2
          simp at h2
          omega
      have hr : (rank (lo W (up d i x) n) z : Int) = k := by rw [hrk x z, hab]; simp; omega
      refine ⟨barS_eq hx1 hr (fun y hy hyr => rank_uniq (hok x hx) (hne x) hy hx1 (by omega)), ?_⟩
      rw [above_iff] at hab
      rcases hab with h | h
      · exact Int.le_of_lt h
      · exact Int.le_of_eq h.1.symm
    have htv := tell_val m den ⟨W i, (0 : Int), (i : Int)⟩ z (by omega) (by omega) hWi ⟨by omega, hz2⟩ ⟨hz3, hz4⟩ (hden _ (by omega) hz4) hden0
    have hsame : ∀ x : Nat, (tellK true m z ⟨W i, (x : Int), (i : Int)⟩).f2 = (tellK true m z ⟨W i, (0 : Int), (i : Int)⟩).f2 ∧ (tellK true m z ⟨W i, (x : Int), (i : Int)⟩).f1 = (tellK true m z ⟨W i, (0 : Int), (i : Int)⟩).f1 := fun x => ⟨rfl, rfl⟩
    obtain ⟨t1, t2, t3, t4, t5, t6⟩ := htv
    obtain ⟨C, hC⟩ : ∃ C, C = den / (tellK true m z ⟨W i, (0 : Int), (i : Int)⟩).f2 * (tellK true m z ⟨W i, (0 : Int), (i : Int)⟩).f1 := ⟨_, rfl⟩
    have hC0 : 0 ≤ C := by
      rw [hC]
      refine Int.mul_nonneg (Int.ediv_nonneg (by omega) (by omega)) (Int.le_trans ?_ t3)
      exact Int.mul_nonneg (by show 0 ≤ W i; omega) (by omega)
    rw [← hC] at t6
    have hv : ∀ x, x < m → valI k m den W (up d i x) n i ≤ if z.f0 * ((x : Int) + 1) ≤ W i * (z.f1 + 1) then C else 0 := fun x hx => by
      unfold valI
      rw [hoi]
      by_cases hlt : (rank (lo W (up d i x) n) ⟨W i, (x : Int), (i : Int)⟩ : Int) < k
      · obtain ⟨hb, hle⟩ := key x hx hlt
        rw [if_pos hlt, hb, (hsame x).1, (hsame x).2, ← hC, if_pos hle]
        exact Int.le_refl _
      · rw [if_neg hlt]
        split
        · exact hC0
        · exact Int.le_refl _
    obtain ⟨q, q0, q1, q2, q3⟩ := count_scale z.f0 (W i * (z.f1 + 1)) C (by omega) (Int.mul_nonneg (by omega) (by omega)) m
    refine Int.le_trans (sm_le m hv) ?_
    rw [q1]
    rcases t6 with ⟨_, h⟩ | ⟨_, h⟩
    · have h' : C = W i * den := by rw [h]; exact Int.mul_comm _ _
      rw [h']
      exact Int.mul_le_mul_of_nonneg_right q3 hWd
    · have ht : 0 < z.f1 + 1 := by omega
      refine Int.le_of_mul_le_mul_right ?_ ht
      have e1 : q * C * (z.f1 + 1) = q * z.f0 * (den * m) := by rw [Int.mul_assoc, h]; ac_rfl
      have e2 : (m : Int) * (W i * den) * (z.f1 + 1) = W i * (z.f1 + 1) * (den * m) := by ac_rfl
      rw [e1, e2]
      exact Int.mul_le_mul_of_nonneg_right q2 (Int.mul_nonneg (by omega) (by omega))
  · have hv : ∀ x, x < m → valI k m den W (up d i x) n i ≤ W i * den := fun x hx => by
      unfold valI
      rw [hoi]
      by_cases hlt : (rank (lo W (up d i x) n) ⟨W i, (x : Int), (i : Int)⟩ : Int) < k
      · have hb : barS k (lo W (up d i x) n) = zO := barS_none (fun y hy hyk => by
          have hyne : y ≠ ⟨W i, (x : Int), (i : Int)⟩ := fun e => by rw [← e] at hlt; omega
          have hyR : y ∈ lo W d i ++ T := by
            rw [hT x] at hy
            rcases List.mem_append.1 hy with h | h
            · exact List.mem_append_left _ h
            · rcases List.mem_cons.1 h with h | h
              · exact absurd h hyne
              · exact List.mem_append_right _ h
          have hab : aboveB ⟨W i, (x : Int), (i : Int)⟩ y = true := by
            cases hab : aboveB ⟨W i, (x : Int), (i : Int)⟩ y with
            | true => rfl
            | false =>
              have h1 := above_total (Ne.symm (hfR y hyR)) hab
              have h2 := rank_lt_of_above (hok x hx) hy (hok x hx _ (hmemi x)) h1
              omega
          refine hz ⟨y, hyR, ?_⟩
          rw [hrk x y, hab] at hyk
          simp at hyk
          omega)
        rw [if_pos hlt, hb]
        have htv := (tell_val m den ⟨W i, (x : Int), (i : Int)⟩ zO (by omega) (by omega) hWi (by decide) ⟨by decide, by show (0 : Int) + 1 ≤ m; omega⟩ (Int.one_dvd _) hden0).2.2.2.2.2
        rcases htv with ⟨_, h⟩ | ⟨h, _⟩
        · rw [h, Int.mul_comm]; exact Int.le_refl _
        · exfalso
          have : (0 : Int) * m = 0 := Int.zero_mul _
          have h' : W i * (0 + 1) < (0 : Int) * m := h
          omega
      · rw [if_neg hlt]; exact hWd
    refine Int.le_trans (sm_le m hv) ?_
    rw [sm_const]
    exact Int.le_refl _

/-- The draw of one place, of all draws as one number. -/
def dig (m v i : Nat) : Nat := v / m ^ i % m
theorem dig_lt {m : Nat} (hm : 1 ≤ m) (v i : Nat) : dig m v i < m := Nat.mod_lt _ hm
theorem valI_congr {k m den : Int} {W : Nat → Int} {d e : Nat → Nat} {n i : Nat} (hi : i < n) (h : ∀ j, j < n → d j = e j) : valI k m den W d n i = valI k m den W e n i := by
  unfold valI
  rw [lo_congr n h, h i hi]
theorem dig_up (m : Nat) (hm : 1 ≤ m) (i q x s : Nat) (hx : x < m) (hs : s < m ^ i) (j : Nat) : dig m (q * (m * m ^ i) + (x * m ^ i + s)) j = up (dig m (q * (m * m ^ i) + (0 * m ^ i + s))) i x j := by
  have hp : ∀ a, 0 < m ^ a := fun a => Nat.pow_pos hm
  have hv : ∀ y, q * (m * m ^ i) + (y * m ^ i + s) = m ^ i * (q * m + y) + s := fun y => by
    rw [Nat.mul_add, ← Nat.add_assoc]
    congr 1
    congr 1
    · ac_rfl
    · exact Nat.mul_comm _ _
  have hdiv : ∀ y, (m ^ i * (q * m + y) + s) / m ^ i = q * m + y := fun y => by
    rw [Nat.mul_add_div (hp i), Nat.div_eq_of_lt hs, Nat.add_zero]
  unfold up dig
  rw [hv, hv]
  rcases Nat.lt_trichotomy j i with h | h | h
  · rw [if_neg (by omega)]
    obtain ⟨c, rfl⟩ : ∃ c, i = j + (c + 1) := ⟨i - j - 1, by omega⟩
    have e : ∀ y, (m ^ (j + (c + 1)) * (q * m + y) + s) / m ^ j % m = s / m ^ j % m := fun y => by
      have : m ^ (j + (c + 1)) * (q * m + y) + s = m ^ j * (m * (m ^ c * (q * m + y))) + s := by
        rw [Nat.pow_add, Nat.pow_succ]
        congr 1
        ac_rfl
      rw [this, Nat.mul_add_div (hp j), Nat.mul_add_mod]
    rw [e, e]
  · subst h
    rw [if_pos rfl, hdiv, Nat.mul_comm q m, Nat.mul_add_mod, Nat.mod_eq_of_lt hx]
  · rw [if_neg (by omega)]
    obtain ⟨c, rfl⟩ : ∃ c, j = i + (1 + c) := ⟨j - i - 1, by omega⟩
    have e : ∀ y, y < m → (m ^ i * (q * m + y) + s) / m ^ (i + (1 + c)) = q / m ^ c := fun y hy => by
      rw [Nat.pow_add, ← Nat.div_div_eq_div_mul, hdiv, Nat.pow_add, ← Nat.div_div_eq_div_mul, Nat.pow_one, Nat.mul_comm q m, Nat.mul_add_div hm, Nat.div_eq_of_lt hy, Nat.add_zero]
    rw [e x hx, e 0 (by omega)]
theorem mean_i (W : Nat → Int) (n i m : Nat) (k den : Int) (hW : ∀ j, 1 ≤ W j ∧ W j ≤ 30) (hm : 1 ≤ m) (hm5 : m ≤ 5) (hi : i < n)
    (hden : ∀ t : Int, 1 ≤ t → t ≤ m → t ∣ den) (hden0 : 0 < den) : sm (m ^ n) (fun v => valI k m den W (dig m v) n i) ≤ ((m ^ n : Nat) : Int) * (W i * den) := by
  obtain ⟨c, rfl⟩ : ∃ c, n = c + (1 + i) := ⟨n - i - 1, by omega⟩
  have e : m ^ (c + (1 + i)) = m ^ c * (m * m ^ i) := by rw [Nat.pow_add, Nat.pow_add, Nat.pow_one]
  rw [e, sm_blocks]
  have h1 : ∀ q, q < m ^ c → sm (m * m ^ i) (fun r => valI k m den W (dig m (q * (m * m ^ i) + r)) (c + (1 + i)) i) ≤ ((m ^ i : Nat) : Int) * (m * (W i * den)) := fun q _ => by
    rw [sm_blocks, sm_swap]
    refine Int.le_trans (sm_le (g := fun _ => (m : Int) * (W i * den)) _ (fun s hs => ?_)) (by rw [sm_const]; exact Int.le_refl _)
    have h2 := mean_one W (dig m (q * (m * m ^ i) + (0 * m ^ i + s))) (c + (1 + i)) i m k den hW hm hm5 (fun j => dig_lt hm _ j) hi hden hden0
    rw [sm_congr m (fun x hx => valI_congr hi (fun j _ => (dig_up m hm i q x s hx hs j).symm))] at h2
    exact h2
  refine Int.le_trans (sm_le _ h1) ?_
  rw [sm_const]
  refine Int.le_of_eq ?_
  rw [Int.natCast_mul, Int.natCast_mul]
  ac_rfl
theorem mean_total (W : Nat → Int) (n m : Nat) (k den : Int) (hW : ∀ j, 1 ≤ W j ∧ W j ≤ 30) (hm : 1 ≤ m) (hm5 : m ≤ 5)
    (hden : ∀ t : Int, 1 ≤ t → t ≤ m → t ∣ den) (hden0 : 0 < den) : sm (m ^ n) (fun v => sm n (fun i => valI k m den W (dig m v) n i)) ≤ sm n W * ((m ^ n : Nat) : Int) * den := by
  rw [sm_swap]
  refine Int.le_trans (sm_le (g := fun i => (((m ^ n : Nat) : Int) * den) * W i) n (fun i hi => ?_)) ?_
  · refine Int.le_trans (mean_i W n i m k den hW hm hm5 hi hden hden0) (Int.le_of_eq ?_)
    ac_rfl
  · rw [sm_scale]
    refine Int.le_of_eq ?_
    ac_rfl

/-- For how much those that are kept count together. -/
def sumK (den : Int) (l : List K) (n : Nat) : Int := sm n (fun j => den / (l.getD j ⟨0, 0, 0⟩).f2 * (l.getD j ⟨0, 0, 0⟩).f1)
theorem sm_list {α : Type} (z : α) (f : α → Int) : ∀ (l : List α), sm l.length (fun j => f (l.getD j z)) = (l.map f).sum
  | [] => rfl
  | x :: t => by
    have h := sm_plus (fun j => f ((x :: t).getD j z)) 1 t.length
    rw [List.length_cons, Nat.add_comm, h]
    have e : sm t.length (fun r => f ((x :: t).getD (1 + r) z)) = sm t.length (fun r => f (t.getD r z)) := sm_congr _ (fun r _ => by rw [Nat.add_comm 1 r]; rfl)
    rw [e, sm_list z f t, List.map_cons, List.sum_cons]
    simp only [sm]
    show 0 + f x + _ = f x + _
    omega
theorem sum_filter {α : Type} (p : α → Bool) (f : α → Int) : ∀ (l : List α), ((l.filter p).map f).sum = (l.map (fun o => if p o then f o else 0)).sum
  | [] => rfl
  | x :: t => by
    rw [List.map_cons, List.sum_cons, ← sum_filter p f t]
    cases h : p x with
    | true => rw [List.filter_cons_of_pos h, List.map_cons, List.sum_cons, if_pos rfl]
    | false => rw [List.filter_cons_of_neg (by rw [h]; simp), if_neg (by simp)]; omega
theorem sum_lo (W : Nat → Int) (d : Nat → Nat) (g : O → Int) : ∀ n, ((lo W d n).map g).sum = sm n (fun i => g ⟨W i, (d i : Int), (i : Int)⟩)
  | 0 => rfl
  | n + 1 => by rw [lo, List.map_append, List.sum_append, sum_lo W d g n, sm]; simp
theorem sumK_full (W : Nat → Int) (d : Nat → Nat) (n : Nat) (k m den : Int) (h : k < n) : sumK den (closeS k m (lo W d n)) (closeS k m (lo W d n)).length = sm n (fun i => valI k m den W d n i) := by
  have hf : fullL k (lo W d n) = true := by unfold fullL; rw [lo_len]; exact decide_eq_true h
  unfold sumK
  rw [sm_list ⟨0, 0, 0⟩ (fun x : K => den / x.f2 * x.f1)]
  unfold closeS
  rw [hf, List.map_map, sum_filter, sum_lo]
  refine sm_congr n (fun i hi => ?_)
  unfold valI
  by_cases hr : (rank (lo W d n) ⟨W i, (d i : Int), (i : Int)⟩ : Int) < k
  · rw [if_pos hr, if_pos (decide_eq_true hr)]; rfl
  · rw [if_neg hr, if_neg (by rw [decide_eq_false hr]; simp)]
theorem closeS_le (keep M : Int) (L : List O) (h : (L.length : Int) ≤ keep) : closeS keep M L = L.map (fun o => ⟨o.f2, o.f0, 1⟩) := by
  unfold closeS
  have hf : fullL keep L = false := decide_eq_false (by omega)
  rw [hf, List.filter_eq_self.2 (fun b hb => decide_eq_true (by have := rank_lt hb; omega))]
  rfl
theorem sumK_few (W : Nat → Int) (d : Nat → Nat) (n : Nat) (k m den : Int) (h : (n : Int) ≤ k) : sumK den (closeS k m (lo W d n)) (closeS k m (lo W d n)).length = sm n W * den := by
  unfold sumK
  rw [sm_list ⟨0, 0, 0⟩ (fun x : K => den / x.f2 * x.f1), closeS_le _ _ _ (by rw [lo_len]; exact h), List.map_map, sum_lo, Int.mul_comm, ← sm_scale]
  refine sm_congr n (fun i hi => ?_)
  show den / 1 * W i = den * W i
  rw [Int.ediv_one]
theorem barS_mem (k : Int) (L : List O) : barS k L = zO ∨ barS k L ∈ L := by
  unfold barS
  cases hfd : L.find? (fun o => decide ((rank L o : Int) = k)) with
  | none => exact .inl rfl
  | some o => exact .inr (List.mem_of_find?_eq_some hfd)
theorem mean_kept (W : Nat → Int) (d : Nat → Nat) (n m : Nat) (k den : Int) (hW : ∀ j, 1 ≤ W j ∧ W j ≤ 30) (hm : 1 ≤ m) (hm5 : m ≤ 5) (hd : ∀ j, d j < m)
    (hden : ∀ t : Int, 1 ≤ t → t ≤ m → t ∣ den) (hden0 : 0 < den) (x : K) (hx : x ∈ closeS k m (lo W d n)) :
    0 < x.f2 ∧ x.f2 ∣ den ∧ x.f2 ≤ 5 ∧ 0 ≤ x.f1 ∧ x.f1 ≤ 150 ∧ ∃ i : Nat, i < n ∧ x.f0 = i ∧ W i * x.f2 ≤ x.f1 := by
  unfold closeS at hx
  obtain ⟨o, ho, rfl⟩ := List.mem_map.1 hx
  rw [List.mem_filter] at ho
  obtain ⟨i, hi, rfl⟩ := lo_mem ho.1
  have hWi := hW i
  by_cases hf : fullL k (lo W d n) = true
  · rw [hf]
    have hz : (0 ≤ (barS k (lo W d n)).f0 ∧ (barS k (lo W d n)).f0 ≤ 30) ∧ 0 ≤ (barS k (lo W d n)).f1 ∧ (barS k (lo W d n)).f1 + 1 ≤ m := by
      rcases barS_mem k (lo W d n) with h | h
      · rw [h]; exact ⟨by decide, by decide, by show (0 : Int) + 1 ≤ m; omega⟩
      · obtain ⟨j, hj, he⟩ := lo_mem h
        rw [he]
        have h1 := hW j
        have h2 := hd j
        exact ⟨⟨by show 0 ≤ W j; omega, by show W j ≤ 30; omega⟩, by show (0 : Int) ≤ (d j : Int); omega, by show (d j : Int) + 1 ≤ m; omega⟩
    obtain ⟨t1, t2, t3, t4, t5, _⟩ := tell_val m den ⟨W i, (d i : Int), (i : Int)⟩ (barS k (lo W d n)) (by omega) (by omega) hWi hz.1 hz.2 (hden _ (by omega) hz.2.2) hden0
    refine ⟨t1, t2, t5, Int.le_trans (Int.mul_nonneg (by show 0 ≤ W i; omega) (by omega)) t3, t4, i, hi, ?_, t3⟩
    rw [tellK_place]
  · rw [Bool.eq_false_iff.2 hf]
    exact ⟨Int.zero_lt_one, Int.one_dvd _, by show (1 : Int) ≤ 5; omega, by show 0 ≤ W i; omega, by show W i ≤ 150; omega, i, hi, rfl, by show W i * 1 ≤ W i; omega⟩
end Go.Proofs.Ythlmgamdnclmhaa.A
