/- Plain: the document's Close tells what is kept; Same. -/
import Derived.Test.YthlmgamdnclmhaaF3
namespace Go.Proofs.Ythlmgamdnclmhaa.A
open Go Go.RowKit Go.Proofs.YthlmgamdnclmhaaW.PrintWords Go.Proofs.YthlmgamdnclmhaaW.PrintLast Go.Proofs.YthlmgamdnclmhaaW.PrintMore Go.Proofs.Ythlmgamdnclmhaa.R
set_option linter.unusedVariables false

set_option maxRecDepth 100000 in
theorem close_scan (L : List O) (out : List K) (l : List Int) (i keep M : Int) (R : Int × Int × List One × List K) (b : List Int) (hl : l.length ≤ 1000) :
    ∀ (post pre : List Int), l = pre ++ post ++ i :: b → i ∉ post → Ev (fun k => telemeterref11_Close.l1 k out l i (((pre ++ post).length : Nat) : Int) keep M (ones L)) R → Ev (fun k => telemeterref11_Close.l1 k out l i (pre.length : Int) keep M (ones L)) R
  | [], pre, h, _, hR => by simpa using hR
  | y :: t, pre, h, hn, hR => by
    have ih := close_scan L out l i keep M R b hl t (pre ++ [y]) (by rw [h]; simp) (fun hm => hn (List.mem_cons_of_mem _ hm)) (by simpa using hR)
    have hll : l.length = pre.length + (t.length + 1) + (b.length + 1) := by rw [h]; simp; omega
    have hrd : rd l (pre.length : Int) = y := by
      unfold rd
      rw [Int.toNat_natCast, h, List.append_assoc, List.getD_eq_getElem?_getD, List.getElem?_append_right (Nat.le_refl _), Nat.sub_self]
      rfl
    have hy : ¬ y = i := fun e => hn (by rw [e]; simp)
    have e2 : wrap64 ((pre.length : Int) + 1) = ((pre ++ [y]).length : Int) := by rw [List.length_append, List.length_singleton]; unfold wrap64; omega
    refine Ev.step (fun k => ?_) ih
    rw [telemeterref11_Close.l1, if_pos (by omega), if_pos (by omega), hrd, if_neg hy, e2]

set_option maxRecDepth 100000 in
theorem close_at (L : List O) (hok : AllOk L) (hp : Places L) (hL : L.length ≤ 1000) (keep M : Int) (hk : 1 ≤ keep) (hM : 0 ≤ M) (hM' : M < K64) (i : Nat) (hi : i < L.length) (out : List K) (hout : out.length ≤ i) (R : Int × Int × List One × List K)
    (h : Ev (fun k => telemeterref11_Close.l0 k (if (rank L (atI L i) : Int) < keep then out ++ [tellK (fullL keep L) M (barS keep L) (atI L i)] else out) (ordI L L.length) ((i : Int) + 1) keep M (ones L)) R) :
    Ev (fun k => telemeterref11_Close.l1 k out (ordI L L.length) (i : Int) 0 keep M (ones L)) R := by
  have HM' := Aside0.mk hM'
  have k8 : 0 ≤ keep := by omega
  have k9 : out.length < 5864062014805 := by omega
  have e1 : wrap64 ((i : Int) + 1) = (i : Int) + 1 := by clear hM'; unfold wrap64; omega
  have k5 : (0 : Int) ≤ (i : Int) := Int.natCast_nonneg i
  have k6 : (i : Int) < (L.length : Int) := Int.ofNat_lt.2 hi
  have k6' : (i : Int) < ((ones L).length : Int) := by rw [ones_len]; exact k6
  obtain ⟨kn, hkn⟩ := Int.eq_ofNat_of_zero_le k8
  have hpi : (atI L (i : Int)).f2 = (i : Int) := atI_place hp (i : Int) k5 k6
  obtain ⟨a, b, hab⟩ := ord_split L i hi
  have hrk := ord_rank L hok hp a b i hab
  have hln := ordI_len L L.length
  have c2 : (a.length : Int) < ((ordI L L.length).length : Int) := Int.ofNat_lt.2 (by rw [hab, List.length_append, List.length_cons]; exact Nat.lt_add_of_pos_right (Nat.succ_pos _))
  have c1 : (0 : Int) ≤ (a.length : Int) := Int.natCast_nonneg _
  have hpair := ordI_pair L hok hp L.length (Nat.le_refl _)
  have hia : (i : Int) ∉ a := fun hm => by
    rw [hab, List.pairwise_append] at hpair
    have := hpair.2.2 _ hm (i : Int) (by simp)
    rw [above_irrefl] at this
    cases this
  have hscan := close_scan L out (ordI L L.length) i keep M R b (by rw [hln]; exact hL) a [] (by rw [List.nil_append]; exact hab) hia
  rw [List.nil_append, show ((([] : List Int).length : Nat) : Int) = 0 from rfl] at hscan
  apply hscan
  clear hscan
  have hrd : rd (ordI L L.length) (a.length : Int) = (i : Int) := by
    unfold rd
    rw [Int.toNat_natCast, hab, List.getD_eq_getElem?_getD, List.getElem?_append_right (Nat.le_refl _), Nat.sub_self]
    rfl
  rw [hrk] at h
  by_cases hc : (a.length : Int) < keep
  · rw [if_pos hc] at h
    by_cases hf : keep < (L.length : Int)
    · have hkl : kn < L.length := by rw [hkn] at hf; exact Int.ofNat_lt.1 hf
      have c7 : keep < ((ordI L L.length).length : Int) := by rw [hln]; exact hf
      obtain ⟨hb1, hb2, hb3⟩ := ord_bar L hok hp kn hkl
      have hb3' : rd (ordI L L.length) (kn : Int) < ((ones L).length : Int) := by rw [ones_len]; exact hb3
      rw [← hkn] at hb1 hb2 hb3 hb3'
      have hcn := ref_counts M (atI L i) (barS keep L) hM HM'.out (atI_ok hok _) (by rw [hb1]; exact atI_ok hok _)
      have ht : tellK (fullL keep L) M (barS keep L) (atI L i) = ⟨(i : Int), (countsV M (atI L i) (barS keep L)).2.1, (countsV M (atI L i) (barS keep L)).2.2⟩ := by
        unfold tellK fullL
        rw [if_pos (decide_eq_true hf), countsV_place, hpi]
      rw [ht] at h
      generalize (countsV M (atI L i) (barS keep L)).2.1 = v1 at hcn h
      generalize (countsV M (atI L i) (barS keep L)).2.2 = v2 at hcn h
      have h2 : Ev (fun k => if out.length < 5864062014805 then telemeterref11_Close.l0 k (out ++ [(⟨(i : Int), v1, v2⟩ : K)]) (ordI L L.length) ((i : Int) + 1) keep M (ones L) else none) R := Ev.congr (fun k => if_pos k9) h
      have h3 : Ev (fun k => (telemeterref11_counts.f k (atI L i).f0 (barS keep L).f0 (barS keep L).f1 M).bind fun bt => if out.length < 5864062014805 then telemeterref11_Close.l0 k (out ++ [(⟨(i : Int), bt.1, bt.2⟩ : K)]) (ordI L L.length) ((i : Int) + 1) keep M (ones L) else none) R := by
        refine Ev.bind hcn ?_
        dsimp only
        exact h2
      refine Ev.step (fun k => ?_) h3
      rw [telemeterref11_Close.l1, if_pos c1, if_pos c2, hrd, if_pos rfl, if_neg (Int.not_le.2 hc), if_pos k5, if_pos k6', if_pos c7, if_pos k8, if_pos c7, if_pos hb2, if_pos hb3', rd_ones L i k5 k6, rd_ones L _ hb2 hb3, ← hb1, e1]
    · have ht : tellK (fullL keep L) M (barS keep L) (atI L i) = ⟨(i : Int), (atI L i).f0, 1⟩ := by
        unfold tellK fullL
        rw [if_neg (by rw [decide_eq_false hf]; simp), hpi]
      have c7 : ¬ ((ordI L L.length).length : Int) > keep := by rw [hln]; exact hf
      rw [ht] at h
      refine Ev.step (fun k => ?_) h
      rw [telemeterref11_Close.l1, if_pos c1, if_pos c2, hrd, if_pos rfl, if_neg (Int.not_le.2 hc), if_pos k5, if_pos k6', if_neg c7, if_pos k9, rd_ones L i k5 k6, e1]
  · rw [if_neg hc] at h
    refine Ev.step (fun k => ?_) h
    rw [telemeterref11_Close.l1, if_pos c1, if_pos c2, hrd, if_pos rfl, if_pos (Int.not_lt.1 hc), e1]

def closeN (keep M : Int) (L : List O) (i : Nat) : List K := ((L.take i).filter (fun o => decide ((rank L o : Int) < keep))).map (tellK (fullL keep L) M (barS keep L))
theorem closeN_succ (keep M : Int) (L : List O) (i : Nat) (hi : i < L.length) : closeN keep M L (i + 1) = if (rank L (atI L i) : Int) < keep then closeN keep M L i ++ [tellK (fullL keep L) M (barS keep L) (atI L i)] else closeN keep M L i := by
  have e : atI L i = L[i] := by unfold atI; rw [Int.toNat_natCast, List.getD_eq_getElem?_getD, List.getElem?_eq_getElem hi]; rfl
  unfold closeN
  rw [List.take_add_one, List.getElem?_eq_getElem hi, e]
  simp only [Option.toList_some, List.filter_append, List.map_append]
  by_cases h : (rank L L[i] : Int) < keep
  · rw [if_pos h, List.filter_cons_of_pos (by rw [decide_eq_true h])]
    rfl
  · rw [if_neg h, List.filter_cons_of_neg (by rw [decide_eq_false h]; simp)]
    simp
theorem closeN_len (keep M : Int) (L : List O) (i : Nat) : (closeN keep M L i).length ≤ i := by
  unfold closeN
  rw [List.length_map]
  exact Nat.le_trans (List.length_filter_le _ _) (by rw [List.length_take]; omega)

theorem close_loop (L : List O) (hok : AllOk L) (hp : Places L) (hL : L.length ≤ 1000) (keep M : Int) (hk : 1 ≤ keep) (hM : 0 ≤ M) (hM' : M < K64) : ∀ (m i : Nat), i + m = L.length →
    Ev (fun k => telemeterref11_Close.l0 k (closeN keep M L i) (ordI L L.length) (i : Int) keep M (ones L)) (keep, M, [], closeS keep M L)
  | 0, i, h => by
    obtain rfl : i = L.length := by omega
    refine Ev.step (f := fun _ => some (keep, M, [], closeS keep M L)) (fun k => ?_) (Ev.now _)
    rw [telemeterref11_Close.l0, if_neg (by rw [ones_len]; omega)]
    unfold closeN closeS
    rw [List.take_length]
  | m + 1, i, h => by
    have ih := close_loop L hok hp hL keep M hk hM hM' m (i + 1) (by omega)
    rw [closeN_succ keep M L i (by omega)] at ih
    refine Ev.step (fun k => ?_) (close_at L hok hp hL keep M hk hM hM' i (by omega) _ (closeN_len keep M L i) _ ih)
    rw [telemeterref11_Close.l0, if_pos (by rw [ones_len]; omega)]
theorem ref_Close (L : List O) (hok : AllOk L) (hp : Places L) (hL : L.length ≤ 1000) (keep M : Int) (hk : 1 ≤ keep) (hM : 0 ≤ M) (hM' : M < K64) :
    Ev (fun k => telemeterref11_Close.f k keep M (ones L)) (keep, M, [], closeS keep M L) :=
  Ev.bind (ref_order L hok hp hL keep M) (close_loop L hok hp hL keep M hk hM hM' L.length 0 (by omega))

theorem same_loop (l : List K) (hl : l.length ≤ 1000) : ∀ (m i : Nat), i + m = l.length → Ev (fun k => telemeterref11_Same.l0 k l l (i : Int)) true
  | 0, i, h => by
    refine Ev.step (f := fun _ => some true) (fun k => ?_) (Ev.now _)
    rw [telemeterref11_Same.l0, if_neg (by omega)]
  | m + 1, i, h => by
    have ih := same_loop l hl m (i + 1) (by omega)
    refine Ev.step (fun k => ?_) ih
    have e1 : wrap64 ((i : Int) + 1) = ((i + 1 : Nat) : Int) := by unfold wrap64; omega
    rw [telemeterref11_Same.l0, if_pos (by omega), if_pos (by omega), if_pos (by omega), if_neg (by simp), e1]
theorem ref_Same (l : List K) (hl : l.length ≤ 1000) : Ev (fun k => telemeterref11_Same.f k l l) true :=
  Ev.congr (fun k => if_pos rfl) (same_loop l hl l.length 0 (by omega))
theorem closeS_len (keep M : Int) (L : List O) : (closeS keep M L).length ≤ L.length := by
  unfold closeS
  rw [List.length_map]
  exact List.length_filter_le _ _
end Go.Proofs.Ythlmgamdnclmhaa.A
