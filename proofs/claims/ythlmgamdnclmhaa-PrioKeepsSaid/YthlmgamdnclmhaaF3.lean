/- Plain: the document's order and Close tell what is kept. -/
import Derived.Test.YthlmgamdnclmhaaF2
namespace Go.Proofs.Ythlmgamdnclmhaa.A
open Go Go.RowKit Go.Proofs.YthlmgamdnclmhaaW.PrintWords Go.Proofs.YthlmgamdnclmhaaW.PrintLast Go.Proofs.YthlmgamdnclmhaaW.PrintMore Go.Proofs.Ythlmgamdnclmhaa.R
set_option linter.unusedVariables false

abbrev One := S93
def ones (L : List O) : List One := L.map (fun o => ⟨o.f0, o.f1⟩)
theorem ones_len (L : List O) : (ones L).length = L.length := by simp [ones]
def atI (L : List O) (i : Int) : O := L.getD i.toNat zO
theorem rd_ones (L : List O) (i : Int) (h0 : 0 ≤ i) (h1 : i < L.length) : rd_T93 (ones L) i = ⟨(atI L i).f0, (atI L i).f1⟩ := by
  unfold rd_T93 ones atI
  have h : i.toNat < L.length := by omega
  rw [List.getD_eq_getElem?_getD, List.getD_eq_getElem?_getD, List.getElem?_map, List.getElem?_eq_getElem h]
  rfl
theorem atI_place {L : List O} (h : Places L) (i : Int) (h0 : 0 ≤ i) (h1 : i < L.length) : (atI L i).f2 = i := by
  have hi : i.toNat < L.length := by omega
  have e : atI L i = L[i.toNat] := by unfold atI; rw [List.getD_eq_getElem?_getD, List.getElem?_eq_getElem hi]; rfl
  rw [e, h i.toNat _ (List.getElem?_eq_getElem hi)]
  omega
theorem atI_ok {L : List O} (h : AllOk L) (i : Int) : Ok (atI L i) := getD_ok h _
def insI (L : List O) (i : Int) : List Int → List Int
  | [] => [i]
  | y :: t => if aboveB (atI L i) (atI L y) then i :: y :: t else y :: insI L i t
theorem insI_perm (L : List O) (i : Int) : ∀ l, (insI L i l).Perm (i :: l)
  | [] => List.Perm.refl _
  | y :: t => by
    unfold insI
    split
    · exact List.Perm.refl _
    · exact ((insI_perm L i t).cons y).trans (List.Perm.swap i y t)
theorem insI_pair (L : List O) (hok : AllOk L) (i : Int) : ∀ l, l.Pairwise (fun a b => aboveB (atI L a) (atI L b) = true) → (∀ y ∈ l, (atI L i).f2 ≠ (atI L y).f2) → (insI L i l).Pairwise (fun a b => aboveB (atI L a) (atI L b) = true)
  | [], _, _ => List.pairwise_singleton _ _
  | y :: t, h, hn => by
    unfold insI
    rw [List.pairwise_cons] at h
    split
    · rename_i hp
      rw [List.pairwise_cons, List.pairwise_cons]
      refine ⟨fun z hz => ?_, h⟩
      rcases List.mem_cons.1 hz with e | hz
      · rw [e]; exact hp
      · exact above_trans (atI_ok hok _) (atI_ok hok _) (atI_ok hok _) hp (h.1 z hz)
    · rename_i hp
      rw [List.pairwise_cons]
      refine ⟨fun z hz => ?_, insI_pair L hok i t h.2 (fun y hy => hn y (List.mem_cons_of_mem _ hy))⟩
      rcases List.mem_cons.1 ((insI_perm L i t).mem_iff.1 hz) with e | hz
      · rw [e]; exact above_total (hn y (by simp)) (Bool.eq_false_iff.2 hp)
      · exact h.1 z hz
def ordI (L : List O) : Nat → List Int
  | 0 => []
  | i + 1 => insI L i (ordI L i)
theorem ordI_perm (L : List O) : ∀ n, (ordI L n).Perm ((List.range n).map (fun i : Nat => (i : Int)))
  | 0 => List.Perm.refl _
  | n + 1 => by
    rw [List.range_succ, List.map_append]
    refine (insI_perm L n _).trans (((ordI_perm L n).cons _).trans ?_)
    exact (List.perm_append_singleton _ _).symm
theorem ordI_mem (L : List O) (n : Nat) (y : Int) (h : y ∈ ordI L n) : 0 ≤ y ∧ y < n := by
  have := (ordI_perm L n).mem_iff.1 h
  rw [List.mem_map] at this
  obtain ⟨i, hi, rfl⟩ := this
  rw [List.mem_range] at hi
  omega
theorem ordI_len (L : List O) (n : Nat) : (ordI L n).length = n := by rw [(ordI_perm L n).length_eq]; simp
theorem ordI_pair (L : List O) (hok : AllOk L) (hp : Places L) : ∀ n, n ≤ L.length → (ordI L n).Pairwise (fun a b => aboveB (atI L a) (atI L b) = true)
  | 0, _ => List.Pairwise.nil
  | n + 1, h => insI_pair L hok n _ (ordI_pair L hok hp n (by omega)) (fun y hy => by
    have := ordI_mem L n y hy
    rw [atI_place hp _ (by omega) (by omega), atI_place hp _ (by omega) (by omega)]
    omega)

set_option maxRecDepth 100000 in
theorem order_ins (L : List O) (hok : AllOk L) (hp : Places L) (hL : L.length ≤ 1000) (keep M : Int) (i : Nat) (hi : i < L.length) (R : List Int) :
    ∀ (post pre : List Int), (∀ y ∈ pre ++ post, 0 ≤ y ∧ y < i) → (pre ++ post).length ≤ 1000 → Ev (fun k => telemeterref11_order.l0 k (pre ++ insI L i post) ((i : Int) + 1) keep M (ones L)) R →
      Ev (fun k => telemeterref11_order.l1 k (pre ++ post) (i : Int) (pre.length : Int) keep M (ones L)) R
  | [], pre, hm, hlen, h => by
    refine Ev.step (fun k => ?_) h
    rw [List.append_nil] at hlen
    have e1 : wrap64 ((i : Int) + 1) = (i : Int) + 1 := by unfold wrap64; omega
    rw [telemeterref11_order.l1, List.append_nil, if_neg (by omega), if_pos (by omega), if_pos (by omega), Int.toNat_natCast, List.take_length, List.drop_length]
    simp only [Option.bind_some, List.nil_append, List.length_nil, Nat.zero_add, List.append_nil]
    rw [if_pos (by omega), if_pos (by omega), if_pos (by simp; omega), e1]
    rfl
  | y :: t, pre, hm, hlen, h => by
    have hy := hm y (by simp)
    have hrd : rd (pre ++ y :: t) (pre.length : Int) = y := by unfold rd; rw [Int.toNat_natCast, List.getD_eq_getElem?_getD, List.getElem?_append_right (Nat.le_refl _), Nat.sub_self]; rfl
    have hab := ref_Above (atI L i).f0 (atI L i).f1 (atI L y).f0 (atI L y).f1 (atI_ok hok _).w0 (atI_ok hok _).w1 (atI_ok hok _).d0 (atI_ok hok _).d1 (atI_ok hok _).w0 (atI_ok hok _).w1 (atI_ok hok _).d0 (atI_ok hok _).d1
    have hlen' : (pre ++ y :: t).length = pre.length + t.length + 1 := by simp; omega
    have e1 : wrap64 ((i : Int) + 1) = (i : Int) + 1 := by unfold wrap64; omega
    have e2 : wrap64 ((pre.length : Int) + 1) = ((pre ++ [y]).length : Int) := by rw [List.length_append, List.length_singleton]; unfold wrap64; omega
    have hpi := atI_place hp i (by omega) (by omega)
    have hpy := atI_place hp y (by omega) (by omega)
    have hiff : aboveB (atI L i) (atI L y) = decide ((atI L y).f0 * ((atI L i).f1 + 1) < (atI L i).f0 * ((atI L y).f1 + 1)) := by
      rw [Bool.eq_iff_iff, above_iff, decide_eq_true_eq]
      show (atI L y).f0 * ((atI L i).f1 + 1) < (atI L i).f0 * ((atI L y).f1 + 1) ∨ _ ↔ _
      constructor
      · rintro (h | ⟨_, h⟩)
        · exact h
        · omega
      · exact Or.inl
    rw [← hiff] at hab
    cases hc : aboveB (atI L i) (atI L y) with
    | true =>
      rw [hc] at hab
      unfold insI at h
      rw [if_pos hc] at h
      refine Ev.step (fun k => ?_) h
      rw [telemeterref11_order.l1, if_pos (by omega), if_pos (by omega), if_pos (by rw [ones_len]; omega), if_pos (by omega), hrd, if_pos (by omega), if_pos (by rw [ones_len]; omega), rd_ones L i (by omega) (by omega), rd_ones L y (by omega) (by omega), hab]
      simp only [Option.bind_some, if_true, List.nil_append, List.length_nil, Nat.zero_add]
      rw [if_pos (by omega), Int.toNat_natCast, List.take_left, List.drop_left, if_pos (by omega), if_pos (by omega), if_pos (by simp; omega), e1]
      simp
    | false =>
      rw [hc] at hab
      unfold insI at h
      rw [if_neg (by rw [hc]; simp)] at h
      have ih := order_ins L hok hp hL keep M i hi R t (pre ++ [y]) (by simpa using hm) (by simpa using hlen) (by simpa using h)
      refine Ev.step (fun k => ?_) ih
      rw [telemeterref11_order.l1, if_pos (by omega), if_pos (by omega), if_pos (by rw [ones_len]; omega), if_pos (by omega), hrd, if_pos (by omega), if_pos (by rw [ones_len]; omega), rd_ones L i (by omega) (by omega), rd_ones L y (by omega) (by omega), hab]
      simp only [Option.bind_some]
      rw [if_neg (by simp), e2]
      simp

theorem order_loop (L : List O) (hok : AllOk L) (hp : Places L) (hL : L.length ≤ 1000) (keep M : Int) : ∀ (m i : Nat), i + m = L.length →
    Ev (fun k => telemeterref11_order.l0 k (ordI L i) (i : Int) keep M (ones L)) (ordI L L.length)
  | 0, i, h => by
    refine Ev.step (f := fun _ => some (ordI L L.length)) (fun k => ?_) (Ev.now _)
    rw [telemeterref11_order.l0, if_neg (by rw [ones_len]; omega), show i = L.length by omega]
  | m + 1, i, h => by
    have ih := order_loop L hok hp hL keep M m (i + 1) (by omega)
    have := order_ins L hok hp hL keep M i (by omega) _ (ordI L i) [] (fun y hy => ordI_mem L i y (by simpa using hy)) (by simp [ordI_len]; omega) (by rw [List.nil_append]; exact ih)
    refine Ev.step (fun k => ?_) this
    rw [telemeterref11_order.l0, if_pos (by rw [ones_len]; omega)]
    rfl
theorem ref_order (L : List O) (hok : AllOk L) (hp : Places L) (hL : L.length ≤ 1000) (keep M : Int) : Ev (fun k => telemeterref11_order.f k keep M (ones L)) (ordI L L.length) :=
  order_loop L hok hp hL keep M L.length 0 (by omega)

theorem range_at (L : List O) : ((List.range L.length).map (fun i : Nat => (i : Int))).map (atI L) = L := by
  rw [List.map_map]
  apply List.ext_getElem
  · simp
  · intro i h1 h2
    simp only [List.getElem_map, List.getElem_range, Function.comp]
    unfold atI
    rw [Int.toNat_natCast, List.getD_eq_getElem?_getD, List.getElem?_eq_getElem h2]
    rfl
theorem ord_rank (L : List O) (hok : AllOk L) (hp : Places L) (a b : List Int) (i : Int) (h : ordI L L.length = a ++ i :: b) : rank L (atI L i) = a.length := by
  have hperm : ((ordI L L.length).map (atI L)).Perm L := by
    have := (ordI_perm L L.length).map (atI L)
    rwa [range_at] at this
  have hpair := ordI_pair L hok hp L.length (Nat.le_refl _)
  rw [h] at hperm hpair
  rw [List.pairwise_append, List.pairwise_cons] at hpair
  obtain ⟨_, ⟨hb, _⟩, ha⟩ := hpair
  rw [← rank_perm hperm, List.map_append, rank_append, List.map_cons, show atI L i :: b.map (atI L) = [atI L i] ++ b.map (atI L) from rfl, rank_append]
  rw [rank_all (L := a.map (atI L)) (fun x hx => by obtain ⟨y, hy, rfl⟩ := List.mem_map.1 hx; exact ha y hy i (by simp)), List.length_map]
  rw [rank_none (L := [atI L i]) (fun x hx => by rw [List.mem_singleton.1 hx]; exact above_irrefl _)]
  rw [rank_none (L := b.map (atI L)) (fun x hx => by obtain ⟨y, hy, rfl⟩ := List.mem_map.1 hx; exact above_asymm (hb y hy))]
  omega
theorem ord_split (L : List O) (i : Nat) (hi : i < L.length) : ∃ a b, ordI L L.length = a ++ (i : Int) :: b := by
  have : (i : Int) ∈ ordI L L.length := (ordI_perm L L.length).mem_iff.2 (by rw [List.mem_map]; exact ⟨i, List.mem_range.2 hi, rfl⟩)
  exact List.append_of_mem this
theorem ord_bar (L : List O) (hok : AllOk L) (hp : Places L) (keep : Nat) (hk : keep < L.length) : barS keep L = atI L (rd (ordI L L.length) (keep : Int)) ∧ 0 ≤ rd (ordI L L.length) (keep : Int) ∧ rd (ordI L L.length) (keep : Int) < L.length := by
  have hlen := ordI_len L L.length
  have hy : (ordI L L.length)[keep]? = some (rd (ordI L L.length) (keep : Int)) := by
    unfold rd
    rw [Int.toNat_natCast, List.getD_eq_getElem?_getD, List.getElem?_eq_getElem (by omega)]
    rfl
  obtain ⟨y, hyy⟩ : ∃ y, y = rd (ordI L L.length) (keep : Int) := ⟨_, rfl⟩
  rw [← hyy] at hy ⊢
  have hmem := ordI_mem L L.length y (List.mem_of_getElem? hy)
  have pos : ∀ (i : Nat), i < L.length → ∃ j : Nat, (ordI L L.length)[j]? = some (i : Int) ∧ rank L (atI L i) = j := fun i hi => by
    obtain ⟨a, b, h⟩ := ord_split L i hi
    refine ⟨a.length, ?_, ord_rank L hok hp a b i h⟩
    rw [h, List.getElem?_append_right (Nat.le_refl _), Nat.sub_self]
    rfl
  have hat : ∀ o ∈ L, ∃ i : Nat, i < L.length ∧ o = atI L i := fun o ho => by
    obtain ⟨i, hi, rfl⟩ := List.getElem_of_mem ho
    refine ⟨i, hi, ?_⟩
    unfold atI
    rw [Int.toNat_natCast, List.getD_eq_getElem?_getD, List.getElem?_eq_getElem hi]
    rfl
  refine ⟨?_, hmem.1, hmem.2⟩
  unfold barS
  cases hfd : L.find? (fun o => decide ((rank L o : Int) = (keep : Int))) with
  | none =>
    rw [List.find?_eq_none] at hfd
    obtain ⟨n, hn⟩ := Int.eq_ofNat_of_zero_le hmem.1
    have hnl : n < L.length := by omega
    obtain ⟨a, b, hab⟩ := ord_split L n hnl
    obtain ⟨j, hj1, hj2⟩ := pos n hnl
    have hnd : (ordI L L.length).Nodup := (ordI_pair L hok hp L.length (Nat.le_refl _)).imp (fun h e => by subst e; rw [above_irrefl] at h; cases h)
    have hjk : j = keep := by
      rw [hn] at hy
      have hjl := (List.getElem?_eq_some_iff.1 hj1).1
      have hkl := (List.getElem?_eq_some_iff.1 hy).1
      rcases Nat.lt_trichotomy j keep with h1 | h1 | h1
      · have := (List.pairwise_iff_getElem.1 hnd) j keep hjl hkl h1
        exact absurd ((List.getElem?_eq_some_iff.1 hj1).2.trans (List.getElem?_eq_some_iff.1 hy).2.symm) this
      · exact h1
      · have := (List.pairwise_iff_getElem.1 hnd) keep j hkl hjl h1
        exact absurd ((List.getElem?_eq_some_iff.1 hy).2.trans (List.getElem?_eq_some_iff.1 hj1).2.symm) this
    have hLm : atI L n ∈ L := by
      unfold atI
      rw [Int.toNat_natCast, List.getD_eq_getElem?_getD, List.getElem?_eq_getElem hnl]
      exact List.getElem_mem _
    have := hfd _ hLm
    rw [decide_eq_true (by omega)] at this
    exact absurd rfl this
  | some o =>
    obtain ⟨i, hi, rfl⟩ := hat o (List.mem_of_find?_eq_some hfd)
    have hr := of_decide_eq_true (List.find?_some (p := fun o => decide ((rank L o : Int) = (keep : Int))) hfd)
    obtain ⟨j, hj1, hj2⟩ := pos i hi
    have : j = keep := by omega
    subst this
    rw [hj1] at hy
    injection hy with hy
    rw [← hy]
    rfl
end Go.Proofs.Ythlmgamdnclmhaa.A
