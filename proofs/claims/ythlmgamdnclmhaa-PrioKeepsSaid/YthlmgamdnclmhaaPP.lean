/- Plain: the order, the heap, what is kept, for how much it counts. -/
import Derived.Test.YthlmgamdnclmhaaRx0
namespace Go.Proofs.Ythlmgamdnclmhaa.A
open Go Go.Proofs.Ythlmgamdnclmhaa.R
abbrev O := S56
def zO : O := z56
/-- one is kept ahead of another one. -/
def aboveB (o x : O) : Bool := decide (x.f0 * (o.f1 + 1) < o.f0 * (x.f1 + 1)) || (!decide (o.f0 * (x.f1 + 1) < x.f0 * (o.f1 + 1)) && decide (o.f2 < x.f2))
structure Ok (o : O) : Prop where
  w0 : 0 ≤ o.f0
  w1 : o.f0 < K64
  d0 : 0 ≤ o.f1
  d1 : o.f1 < K64
def AllOk (l : List O) : Prop := ∀ o ∈ l, Ok o
def swp (l : List O) (i j : Nat) : List O := (l.set i (l.getD j zO)).set j (l.getD i zO)
theorem swp_len (l : List O) (i j : Nat) : (swp l i j).length = l.length := by simp [swp]
/-- Less(i, j). -/
def lessL (l : List O) (i j : Nat) : Bool := aboveB (l.getD j zO) (l.getD i zO)
def upL : Nat → List O → Nat → List O
  | 0, l, _ => l
  | k + 1, l, j => if j = 0 then l else if lessL l j ((j - 1) / 2) then upL k (swp l ((j - 1) / 2) j) ((j - 1) / 2) else l
theorem zOk : Ok zO := ⟨by decide, by decide, by decide, by decide⟩
theorem getD_ok {l : List O} (h : AllOk l) (i : Nat) : Ok (l.getD i zO) := by
  rw [List.getD_eq_getElem?_getD]
  cases e : l[i]? with
  | none => exact zOk
  | some x => exact h x (List.mem_of_getElem? e)
theorem set_ok {l : List O} (h : AllOk l) (i : Nat) {o : O} (ho : Ok o) : AllOk (l.set i o) := fun x hx => by
  rcases List.mem_or_eq_of_mem_set hx with h1 | h1
  · exact h x h1
  · subst h1; exact ho
theorem swp_ok {l : List O} (h : AllOk l) (i j : Nat) : AllOk (swp l i j) := set_ok (set_ok h _ (getD_ok h _)) _ (getD_ok h _)
theorem upL_len : ∀ (k : Nat) (l : List O) (j : Nat), (upL k l j).length = l.length
  | 0, _, _ => rfl
  | k + 1, l, j => by
    unfold upL
    split
    · rfl
    · split
      · rw [upL_len k]; exact swp_len _ _ _
      · rfl
theorem upL_ok : ∀ (k : Nat) (l : List O) (j : Nat), AllOk l → AllOk (upL k l j)
  | 0, _, _, h => h
  | k + 1, l, j, h => by
    unfold upL
    split
    · exact h
    · split
      · exact upL_ok k _ _ (swp_ok h _ _)
      · exact h
/-- The child that is gone down to. -/
def childL (l : List O) (i n : Nat) : Nat := if 2 * i + 2 < n ∧ lessL l (2 * i + 2) (2 * i + 1) = true then 2 * i + 2 else 2 * i + 1
def downL : Nat → List O → Nat → Nat → List O × Nat
  | 0, l, i, _ => (l, i)
  | k + 1, l, i, n => if n ≤ 2 * i + 1 then (l, i) else if lessL l (childL l i n) i then downL k (swp l i (childL l i n)) (childL l i n) n else (l, i)
theorem childL_lt (l : List O) (i n : Nat) (h : 2 * i + 1 < n) : childL l i n < n ∧ i < childL l i n := by
  unfold childL
  split <;> omega
theorem downL_len : ∀ (k : Nat) (l : List O) (i n : Nat), (downL k l i n).1.length = l.length
  | 0, _, _, _ => rfl
  | k + 1, l, i, n => by
    unfold downL
    split
    · rfl
    · split
      · rw [downL_len k]; exact swp_len _ _ _
      · rfl
theorem downL_ok : ∀ (k : Nat) (l : List O) (i n : Nat), AllOk l → AllOk (downL k l i n).1
  | 0, _, _, _, h => h
  | k + 1, l, i, n, h => by
    unfold downL
    split
    · exact h
    · split
      · exact downL_ok k _ _ _ (swp_ok h _ _)
      · exact h
/-- What heap.Push makes of a row. -/
def pushL (l : List O) (x : O) : List O := upL (l.length + 1) (l ++ [x]) l.length
theorem pushL_len (l : List O) (x : O) : (pushL l x).length = l.length + 1 := by unfold pushL; rw [upL_len]; simp
theorem pushL_ok {l : List O} {x : O} (h : AllOk l) (hx : Ok x) : AllOk (pushL l x) := upL_ok _ _ _ (fun o ho => by
  rcases List.mem_append.1 ho with h1 | h1
  · exact h o h1
  · rw [List.mem_singleton.1 h1]; exact hx)

/-- What heap.Pop takes, and what it leaves. -/
def popR (l : List O) : List O := (downL (l.length - 1) (swp l 0 (l.length - 1)) 0 (l.length - 1)).1
theorem popR_len (l : List O) : (popR l).length = l.length := by unfold popR; rw [downL_len, swp_len]
theorem popR_ok {l : List O} (h : AllOk l) : AllOk (popR l) := downL_ok _ _ _ _ (swp_ok h _ _)

/-- One more, weighed, drawn and placed. -/
def drawL (M draw : Int) : Int := if 0 < M then draw % M else draw
def addL (keep : Int) (l : List O) (x : O) : List O := if keep + 1 < (pushL l x).length then (popR (pushL l x)).dropLast else pushL l x

end Go.Proofs.Ythlmgamdnclmhaa.A

namespace Go.Proofs.Ythlmgamdnclmhaa.A
open Go Go.Proofs.Ythlmgamdnclmhaa.R
/-- All draws times a weight. -/
def allW (M wt : Int) : Int := if M = 0 then wt * K64 else wt * M
def clip (x : Int) : Int := if x < K64 then x else K64 - 1
/-- The place, and for how much it counts: two numbers. -/
def countsV (M : Int) (o bar : O) : Int × Int × Int :=
  if allW M bar.f0 ≤ o.f0 * (bar.f1 + 1) then (o.f2, o.f0, 1)
  else if bar.f1 + 1 = K64 then (o.f2, bar.f0, 1)
  else (o.f2, clip (allW M bar.f0 / (Int.gcd (bar.f1 + 1) (allW M bar.f0 % (bar.f1 + 1)) : Int)), (bar.f1 + 1) / (Int.gcd (bar.f1 + 1) (allW M bar.f0 % (bar.f1 + 1)) : Int))
theorem K64_pos : (0 : Int) < K64 := by decide
theorem allW_bd {M wt : Int} (hM : 0 ≤ M) (hM' : M < K64) (h : 0 ≤ wt) (h' : wt < K64) : 0 ≤ allW M wt ∧ allW M wt < K64 * K64 := by
  unfold allW
  split
  · exact ⟨Int.mul_nonneg h (Int.le_of_lt K64_pos), Int.mul_lt_mul_of_pos_right h' K64_pos⟩
  · refine ⟨Int.mul_nonneg h hM, ?_⟩
    have h1 : wt * M ≤ wt * K64 := Int.mul_le_mul_of_nonneg_left (Int.le_of_lt hM') h
    have h2 : wt * K64 < K64 * K64 := Int.mul_lt_mul_of_pos_right h' K64_pos
    omega
theorem wide_lt {A B : Int} : (if A / K64 > B / K64 then some true else if A / K64 = B / K64 then some (decide (A % K64 > B % K64)) else some false) = some (decide (B < A)) := by
  unfold K64
  split
  · rw [decide_eq_true (by omega)]
  · split
    · congr 1; rw [decide_eq_decide]; omega
    · rw [decide_eq_false (by omega)]
end Go.Proofs.Ythlmgamdnclmhaa.A

namespace Go.Proofs.Ythlmgamdnclmhaa.A
open Go Go.Proofs.Ythlmgamdnclmhaa.R
abbrev K := S33
def encK (o : K) : List Value := [.int .i64 o.f0, .int .u64 o.f1, .int .u64 o.f2]
def flatP (l : List K) : List Value := l.flatMap encK
theorem flatP_len (l : List K) : (flatP l).length = 3 * l.length := by
  induction l with
  | nil => rfl
  | cons x r ih => simp only [flatP, List.flatMap_cons, List.length_append, List.length_cons] at *; rw [ih]; simp [encK]; omega
theorem flatP_append (l r : List K) : flatP (l ++ r) = flatP l ++ flatP r := by simp [flatP]
theorem flatP_get (l : List K) (m c : Nat) (x : K) (hm : l[m]? = some x) (hc : c < 3) : (flatP l)[3 * m + c]? = (encK x)[c]? := by
  induction l generalizing m with
  | nil => simp at hm
  | cons y r ih =>
    cases m with
    | zero =>
      obtain rfl : y = x := by simpa using hm
      show (encK y ++ flatP r)[3 * 0 + c]? = _
      rw [List.getElem?_append_left (by simp [encK]; omega)]
      simp
    | succ m =>
      show (encK y ++ flatP r)[3 * (m + 1) + c]? = _
      rw [List.getElem?_append_right (by simp [encK]; omega), ← ih m (by simpa using hm)]
      congr 1
      simp [encK]; omega
end Go.Proofs.Ythlmgamdnclmhaa.A

namespace Go.Proofs.Ythlmgamdnclmhaa.A
open Go Go.Proofs.Ythlmgamdnclmhaa.R
theorem swp_perm (l : List O) (i j : Nat) (hi : i < l.length) (hj : j < l.length) : (swp l i j).Perm l := by
  unfold swp
  rw [List.getD_eq_getElem?_getD, List.getD_eq_getElem?_getD, List.getElem?_eq_getElem hi, List.getElem?_eq_getElem hj]
  exact List.set_set_perm hi hj
theorem upL_perm : ∀ (k : Nat) (l : List O) (j : Nat), j < l.length → (upL k l j).Perm l
  | 0, _, _, _ => List.Perm.refl _
  | k + 1, l, j, h => by
    unfold upL
    split
    · exact List.Perm.refl _
    · split
      · exact (upL_perm k _ _ (by rw [swp_len]; omega)).trans (swp_perm l _ _ (by omega) h)
      · exact List.Perm.refl _
theorem downL_perm : ∀ (k : Nat) (l : List O) (i n : Nat), n ≤ l.length → (downL k l i n).1.Perm l
  | 0, _, _, _, _ => List.Perm.refl _
  | k + 1, l, i, n, h => by
    unfold downL
    split
    · exact List.Perm.refl _
    · split
      · rename_i h1 _
        have hc : childL l i n < n ∧ i < childL l i n := by
          unfold childL
          split <;> omega
        exact (downL_perm k _ _ _ (by rw [swp_len]; omega)).trans (swp_perm l _ _ (by omega) (by omega))
      · exact List.Perm.refl _
theorem pushL_perm (l : List O) (x : O) : (pushL l x).Perm (l ++ [x]) := upL_perm _ _ _ (by simp)
theorem popR_perm (l : List O) : (popR l).Perm l := by
  unfold popR
  cases l with
  | nil => exact (downL_perm _ _ _ _ (by rw [swp_len]; simp)).trans (by simp [swp])
  | cons a r => exact (downL_perm _ _ _ _ (by rw [swp_len]; simp)).trans (swp_perm _ _ _ (by simp) (by simp))
/-- What Close tells, in the heap's order. -/
def tellK (full : Bool) (M : Int) (bar o : O) : K := if full then ⟨(countsV M o bar).1, (countsV M o bar).2.1, (countsV M o bar).2.2⟩ else ⟨o.f2, o.f0, 1⟩
def fullL (keep : Int) (l : List O) : Bool := decide (keep < l.length)
def barL (keep : Int) (l : List O) : O := if fullL keep l then (popR l).getD (l.length - 1) zO else zO
def restL (keep : Int) (l : List O) : List O := if fullL keep l then (popR l).dropLast else l
def closeL (keep M : Int) (l : List O) : List K := (restL keep l).map (tellK (fullL keep l) M (barL keep l))
theorem barL_ok {keep : Int} {l : List O} (h : AllOk l) : Ok (barL keep l) := by
  unfold barL
  split
  · exact getD_ok (popR_ok h) _
  · exact zOk
theorem restL_ok {keep : Int} {l : List O} (h : AllOk l) : AllOk (restL keep l) := by
  unfold restL
  split
  · exact fun o ho => popR_ok h o (List.dropLast_subset _ ho)
  · exact h

theorem countsV_place (M : Int) (o bar : O) : (countsV M o bar).1 = o.f2 := by
  unfold countsV
  split
  · rfl
  · split <;> rfl
theorem restL_mem {keep : Int} {l : List O} {o : O} (h : o ∈ restL keep l) : o ∈ l := by
  unfold restL at h
  split at h
  · exact (popR_perm l).mem_iff.1 (List.dropLast_subset _ h)
  · exact h
end Go.Proofs.Ythlmgamdnclmhaa.A

namespace Go.Proofs.Ythlmgamdnclmhaa.A
open Go Go.Proofs.Ythlmgamdnclmhaa.R

/-- A weight by another one's draw and one. -/
def cr (a b : O) : Int := a.f0 * (b.f1 + 1)
theorem cr_trans (a b c : O) (hb : Ok b) (ha : Ok a) (hc : Ok c) : (cr a b ≤ cr b a → cr b c ≤ cr c b → cr a c ≤ cr c a) ∧ (cr a b < cr b a → cr b c ≤ cr c b → cr a c < cr c a) ∧ (cr a b ≤ cr b a → cr b c < cr c b → cr a c < cr c a) := by
  have hb1 : 0 < b.f1 + 1 := by have := hb.d0; omega
  have ha1 : 0 < a.f1 + 1 := by have := ha.d0; omega
  have hc1 : 0 < c.f1 + 1 := by have := hc.d0; omega
  unfold cr
  generalize b.f1 + 1 = B at *
  generalize a.f1 + 1 = A at *
  generalize c.f1 + 1 = C at *
  have e1 : a.f0 * C * B = a.f0 * B * C := by rw [Int.mul_assoc, Int.mul_comm C B, ← Int.mul_assoc]
  have e2 : b.f0 * A * C = b.f0 * C * A := by rw [Int.mul_assoc, Int.mul_comm A C, ← Int.mul_assoc]
  have e3 : c.f0 * B * A = c.f0 * A * B := by rw [Int.mul_assoc, Int.mul_comm B A, ← Int.mul_assoc]
  refine ⟨fun h1 h2 => ?_, fun h1 h2 => ?_, fun h1 h2 => ?_⟩
  · refine Int.le_of_mul_le_mul_right ?_ hb1
    have k1 := Int.mul_le_mul_of_nonneg_right h1 (Int.le_of_lt hc1)
    have k2 := Int.mul_le_mul_of_nonneg_right h2 (Int.le_of_lt ha1)
    omega
  · refine Int.lt_of_mul_lt_mul_right ?_ (Int.le_of_lt hb1)
    have k1 := Int.mul_lt_mul_of_pos_right h1 hc1
    have k2 := Int.mul_le_mul_of_nonneg_right h2 (Int.le_of_lt ha1)
    omega
  · refine Int.lt_of_mul_lt_mul_right ?_ (Int.le_of_lt hb1)
    have k1 := Int.mul_le_mul_of_nonneg_right h1 (Int.le_of_lt hc1)
    have k2 := Int.mul_lt_mul_of_pos_right h2 ha1
    omega
theorem above_iff (o x : O) : aboveB o x = true ↔ cr x o < cr o x ∨ (cr o x = cr x o ∧ o.f2 < x.f2) := by
  unfold aboveB
  show (decide (cr x o < cr o x) || (!decide (cr o x < cr x o) && decide (o.f2 < x.f2))) = true ↔ _
  simp only [Bool.or_eq_true, Bool.and_eq_true, Bool.not_eq_true', decide_eq_true_eq, decide_eq_false_iff_not]
  omega
theorem nabove_iff (o x : O) : aboveB o x = false ↔ cr o x < cr x o ∨ (cr o x = cr x o ∧ x.f2 ≤ o.f2) := by
  rw [← Bool.not_eq_true, above_iff]
  omega
theorem above_irrefl (o : O) : aboveB o o = false := by rw [nabove_iff]; omega
theorem above_asymm {o x : O} (h : aboveB o x = true) : aboveB x o = false := by rw [above_iff] at h; rw [nabove_iff]; omega
theorem le_trans' {a b c : O} (ha : Ok a) (hb : Ok b) (hc : Ok c) (h1 : aboveB a b = false) (h2 : aboveB b c = false) : aboveB a c = false := by
  rw [nabove_iff] at *
  obtain ⟨t1, t2, t3⟩ := cr_trans a b c hb ha hc
  obtain ⟨s1, s2, s3⟩ := cr_trans c b a hb hc ha
  rcases h1 with h1 | ⟨h1, p1⟩ <;> rcases h2 with h2 | ⟨h2, p2⟩
  · exact .inl (t2 h1 (by omega))
  · exact .inl (t2 h1 (by omega))
  · exact .inl (t3 (by omega) h2)
  · have := t1 (by omega) (by omega)
    have := s1 (by omega) (by omega)
    exact .inr ⟨by omega, by omega⟩
theorem above_total {a b : O} (hne : a.f2 ≠ b.f2) (h : aboveB a b = false) : aboveB b a = true := by
  rw [nabove_iff] at h
  rw [above_iff]
  omega
theorem above_trans {a b c : O} (ha : Ok a) (hb : Ok b) (hc : Ok c) (h1 : aboveB a b = true) (h2 : aboveB b c = true) : aboveB a c = true := by
  cases h : aboveB a c with
  | true => rfl
  | false =>
    have := le_trans' ha hc hb h (above_asymm h2)
    rw [h1] at this
    cases this

/-- In the heap's order up to n. -/
def Hp (l : List O) (n : Nat) : Prop := ∀ j, 0 < j → j < n → aboveB (l.getD ((j - 1) / 2) zO) (l.getD j zO) = false
theorem swp_get (l : List O) (i j k : Nat) (hi : i < l.length) (hj : j < l.length) : (swp l i j).getD k zO = if k = j then l.getD i zO else if k = i then l.getD j zO else l.getD k zO := by
  unfold swp
  simp only [List.getD_eq_getElem?_getD, List.getElem?_set, List.length_set]
  by_cases h1 : k = j
  · subst h1; simp [hj]
  · rw [if_neg (Ne.symm h1), if_neg h1]
    by_cases h2 : k = i
    · subst h2; simp [hi]
    · rw [if_neg (Ne.symm h2), if_neg h2]
def Hup (l : List O) (n j : Nat) : Prop := (∀ k, 0 < k → k < n → k ≠ j → aboveB (l.getD ((k - 1) / 2) zO) (l.getD k zO) = false) ∧ (∀ c, 0 < c → c < n → (c - 1) / 2 = j → 0 < j → aboveB (l.getD ((j - 1) / 2) zO) (l.getD c zO) = false)
theorem up_heap : ∀ (k : Nat) (l : List O) (j : Nat), AllOk l → j < l.length → j < k → Hup l l.length j → Hp (upL k l j) l.length
  | 0, _, _, _, _, h, _ => absurd h (Nat.not_lt_zero _)
  | k + 1, l, j, hok, hj, hk, h => by
    unfold upL
    split
    · rename_i h0
      subst h0
      exact fun i h1 h2 => h.1 i h1 h2 (by omega)
    · rename_i h0
      split
      · rename_i hl
        unfold lessL at hl
        have hp : (j - 1) / 2 < l.length := by omega
        have hln : (swp l ((j - 1) / 2) j).length = l.length := swp_len _ _ _
        have hlt := up_heap k (swp l ((j - 1) / 2) j) ((j - 1) / 2) (swp_ok hok _ _) (by omega) (by omega)
        rw [hln] at hlt
        apply hlt
        have g := fun m => swp_get l ((j - 1) / 2) j m hp hj
        have o := fun m => getD_ok hok m
        refine ⟨fun i h1 h2 h3 => ?_, fun c h1 h2 h3 h4 => ?_⟩
        · rw [g, g]
          by_cases e1 : i = j
          · subst e1
            rw [if_neg (by omega), if_pos rfl, if_pos rfl]
            exact above_asymm hl
          · rw [if_neg e1, if_neg h3]
            by_cases e2 : (i - 1) / 2 = j
            · rw [if_pos e2]
              exact h.2 i h1 h2 e2 (by omega)
            · rw [if_neg e2]
              by_cases e3 : (i - 1) / 2 = (j - 1) / 2
              · rw [if_pos e3]
                have := h.1 i h1 h2 e1
                rw [e3] at this
                exact le_trans' (o _) (o _) (o _) (above_asymm hl) this
              · rw [if_neg e3]
                exact h.1 i h1 h2 e1
        · rw [g, g, if_neg (by omega), if_neg (by omega)]
          have hpp := h.1 ((j - 1) / 2) h4 (by omega) (by omega)
          by_cases e1 : c = j
          · rw [if_pos e1]; exact hpp
          · rw [if_neg e1, if_neg (by omega)]
            have := h.1 c h1 h2 e1
            rw [h3] at this
            exact le_trans' (o _) (o _) (o _) hpp this
      · rename_i hl
        unfold lessL at hl
        intro i h1 h2
        by_cases e1 : i = j
        · subst e1; exact Bool.eq_false_iff.2 hl
        · exact h.1 i h1 h2 e1
def Hdn (l : List O) (n i : Nat) : Prop := (∀ k, 0 < k → k < n → (k - 1) / 2 ≠ i → aboveB (l.getD ((k - 1) / 2) zO) (l.getD k zO) = false) ∧ (∀ c, 0 < c → c < n → (c - 1) / 2 = i → 0 < i → aboveB (l.getD ((i - 1) / 2) zO) (l.getD c zO) = false)
theorem child_least (l : List O) (i n c : Nat) (h : c < n) (h0 : 0 < c) (hc : (c - 1) / 2 = i) : aboveB (l.getD (childL l i n) zO) (l.getD c zO) = false ∧ (childL l i n - 1) / 2 = i ∧ 0 < childL l i n := by
  unfold childL
  split
  · rename_i h1
    have h2 := h1.2
    unfold lessL at h2
    refine ⟨?_, by omega, by omega⟩
    by_cases e : c = 2 * i + 2
    · subst e; exact above_irrefl _
    · obtain rfl : c = 2 * i + 1 := by omega
      exact above_asymm h2
  · rename_i h1
    refine ⟨?_, by omega, by omega⟩
    by_cases e : c = 2 * i + 1
    · subst e; exact above_irrefl _
    · obtain rfl : c = 2 * i + 2 := by omega
      have h2 : ¬ lessL l (2 * i + 2) (2 * i + 1) = true := fun h2 => h1 ⟨h, h2⟩
      unfold lessL at h2
      exact Bool.eq_false_iff.2 h2
theorem down_heap : ∀ (k : Nat) (l : List O) (i n : Nat), AllOk l → n ≤ l.length → n ≤ k + i → Hdn l n i → Hp (downL k l i n).1 n
  | 0, l, i, n, hok, hn, hk, h => by
    intro j h1 h2
    exact h.1 j h1 h2 (by omega)
  | k + 1, l, i, n, hok, hn, hk, h => by
    unfold downL
    split
    · intro j h1 h2
      exact h.1 j h1 h2 (by omega)
    · rename_i h0
      have hc := childL_lt l i n (by omega)
      have hcl := child_least l i n (2 * i + 1) (by omega) (by omega) (by omega)
      split
      · rename_i hl
        unfold lessL at hl
        have hln : (swp l i (childL l i n)).length = l.length := swp_len _ _ _
        apply down_heap k (swp l i (childL l i n)) (childL l i n) n (swp_ok hok _ _) (by omega) (by omega)
        have g := fun m => swp_get l i (childL l i n) m (by omega) (by omega)
        have o := fun m => getD_ok hok m
        refine ⟨fun j h1 h2 h3 => ?_, fun c h1 h2 h3 h4 => ?_⟩
        · rw [g, g]
          by_cases e1 : j = childL l i n
          · rw [if_pos e1, e1, hcl.2.1, if_neg (by omega), if_pos rfl]
            exact above_asymm hl
          · rw [if_neg e1, if_neg h3]
            by_cases e2 : (j - 1) / 2 = i
            · rw [if_pos e2, if_neg (by omega)]
              exact (child_least l i n j h2 h1 e2).1
            · rw [if_neg e2]
              by_cases e3 : j = i
              · rw [if_pos e3, e3]
                exact h.2 (childL l i n) hcl.2.2 hc.1 hcl.2.1 (by omega)
              · rw [if_neg e3]
                exact h.1 j h1 h2 e2
        · rw [g, g, hcl.2.1, if_neg (by omega), if_pos rfl, if_neg (by omega), if_neg (by omega)]
          have := h.1 c h1 h2 (by omega)
          rw [h3] at this
          exact this
      · rename_i hl
        unfold lessL at hl
        have o := fun m => getD_ok hok m
        intro j h1 h2
        by_cases e : (j - 1) / 2 = i
        · rw [e]
          exact le_trans' (o _) (o _) (o _) (Bool.eq_false_iff.2 hl) (child_least l i n j h2 h1 e).1
        · exact h.1 j h1 h2 e
theorem heap_min (l : List O) (n : Nat) (hok : AllOk l) (h : Hp l n) : ∀ j, j < n → aboveB (l.getD 0 zO) (l.getD j zO) = false
  | 0, _ => above_irrefl _
  | j + 1, hj => le_trans' (getD_ok hok _) (getD_ok hok _) (getD_ok hok _) (heap_min l n hok h ((j + 1 - 1) / 2) (by omega)) (h (j + 1) (by omega) hj)
termination_by j => j
decreasing_by omega
theorem downL_far : ∀ (k : Nat) (l : List O) (i n m : Nat), n ≤ m → n ≤ l.length → (downL k l i n).1.getD m zO = l.getD m zO
  | 0, _, _, _, _, _, _ => rfl
  | k + 1, l, i, n, m, h, hn => by
    unfold downL
    split
    · rfl
    · split
      · rename_i h0 _
        have hc := childL_lt l i n
        by_cases h1 : 2 * i + 1 < n
        · have hc := hc h1
          rw [downL_far k _ _ _ _ h (by rw [swp_len]; exact hn), swp_get _ _ _ _ (by omega) (by omega), if_neg (by omega), if_neg (by omega)]
        · omega
      · rfl
theorem push_heap {l : List O} {x : O} (hok : AllOk l) (hx : Ok x) (h : Hp l l.length) : Hp (pushL l x) (l.length + 1) := by
  unfold pushL
  have hok' : AllOk (l ++ [x]) := fun o ho => by
    rcases List.mem_append.1 ho with h1 | h1
    · exact hok o h1
    · rw [List.mem_singleton.1 h1]; exact hx
  have hl : (l ++ [x]).length = l.length + 1 := by simp
  have := up_heap (l.length + 1) (l ++ [x]) l.length hok' (by simp) (by omega)
  rw [hl] at this
  apply this
  refine ⟨fun k h1 h2 h3 => ?_, fun c h1 h2 h3 h4 => by omega⟩
  have hk : k < l.length := by omega
  have g : ∀ m, m < l.length → (l ++ [x]).getD m zO = l.getD m zO := fun m hm => by
    simp only [List.getD_eq_getElem?_getD]
    rw [List.getElem?_append_left hm]
  rw [g _ (by omega), g _ hk]
  exact h k h1 hk
/-- heap.Pop: the least one comes last; ahead of it a heap. -/
theorem pop_heap {l : List O} (hok : AllOk l) (h : Hp l l.length) (h1 : 1 ≤ l.length) : Hp (popR l) (l.length - 1) ∧ (popR l).getD (l.length - 1) zO = l.getD 0 zO := by
  unfold popR
  have hl : (swp l 0 (l.length - 1)).length = l.length := swp_len _ _ _
  have g := fun m => swp_get l 0 (l.length - 1) m (by omega) (by omega)
  constructor
  · apply down_heap _ _ _ _ (swp_ok hok _ _) (by omega) (by omega)
    refine ⟨fun k h2 h3 h4 => ?_, fun c _ _ _ h4 => absurd h4 (Nat.lt_irrefl _)⟩
    rw [g, g, if_neg (by omega), if_neg (by omega), if_neg (by omega), if_neg (by omega)]
    exact h k h2 (by omega)
  · rw [downL_far _ _ _ _ _ (Nat.le_refl _) (by omega), g, if_pos rfl]
theorem Hp.dropLast {l : List O} (h : Hp l (l.length - 1)) : Hp l.dropLast l.dropLast.length := by
  intro j h1 h2
  rw [List.length_dropLast] at h2
  have g : ∀ m, m < l.length - 1 → l.dropLast.getD m zO = l.getD m zO := fun m hm => by
    rw [List.dropLast_eq_take, List.getD_eq_getElem?_getD, List.getD_eq_getElem?_getD, List.getElem?_take_of_lt hm]
  rw [g _ (by omega), g _ h2]
  exact h j h1 h2
end Go.Proofs.Ythlmgamdnclmhaa.A

namespace Go.Proofs.Ythlmgamdnclmhaa.A
open Go Go.Proofs.Ythlmgamdnclmhaa.R

/-- How many are above one. -/
def rank (L : List O) (o : O) : Nat := L.countP (fun x => aboveB x o)
def barS (keep : Int) (L : List O) : O := (L.find? (fun o => decide ((rank L o : Int) = keep))).getD zO
/-- What Close tells of what was offered, in the order of the places. -/
def closeS (keep M : Int) (L : List O) : List K := (L.filter (fun o => decide ((rank L o : Int) < keep))).map (tellK (fullL keep L) M (barS keep L))
/-- What was offered lies in order: the places count. -/
def Places (L : List O) : Prop := ∀ (i : Nat) (o : O), L[i]? = some o → o.f2 = i
theorem Places.snoc {L : List O} {x : O} (h : Places L) (hx : x.f2 = L.length) : Places (L ++ [x]) := by
  intro i o ho
  rcases Nat.lt_trichotomy i L.length with h1 | h1 | h1
  · rw [List.getElem?_append_left h1] at ho; exact h i o ho
  · subst h1
    rw [List.getElem?_append_right (Nat.le_refl _), Nat.sub_self] at ho
    simp at ho; subst ho; exact hx
  · rw [List.getElem?_eq_none (by simp; omega)] at ho; cases ho
theorem Places.pair {L : List O} (h : Places L) : L.Pairwise (fun a b => a.f2 < b.f2) := by
  rw [List.pairwise_iff_getElem]
  intro i j hi hj hij
  rw [h i _ (List.getElem?_eq_getElem hi), h j _ (List.getElem?_eq_getElem hj)]
  omega
theorem Places.ne {L : List O} (h : Places L) : L.Pairwise (fun a b => a.f2 ≠ b.f2) := h.pair.imp (fun h => by omega)
theorem Places.bd {L : List O} (h : Places L) {o : O} (ho : o ∈ L) : 0 ≤ o.f2 ∧ o.f2 < L.length := by
  obtain ⟨i, hi, rfl⟩ := List.getElem_of_mem ho
  have := h i _ (List.getElem?_eq_getElem hi)
  omega

structure Inv (keep : Int) (l L : List O) : Prop where
  ok : AllOk L
  pl : Places L
  heap : Hp l l.length
  len : l.length ≤ keep + 1
  ex : ∃ rest, (l ++ rest).Perm L ∧ (∀ r ∈ rest, ∀ b ∈ l, aboveB b r = true) ∧ (l.length < keep + 1 → rest = [])
theorem Inv.mem {keep : Int} {l L : List O} (h : Inv keep l L) {o : O} (ho : o ∈ l) : o ∈ L := by
  obtain ⟨rest, hp, _⟩ := h.ex
  exact hp.mem_iff.1 (List.mem_append_left _ ho)
theorem Inv.okl {keep : Int} {l L : List O} (h : Inv keep l L) : AllOk l := fun o ho => h.ok o (h.mem ho)
theorem Inv.nil (keep : Int) (h : 0 ≤ keep) : Inv keep [] [] := ⟨fun o h => (by cases h), fun i o h => by simp at h, fun j h1 h2 => by simp at h2, by simp; omega, [], List.Perm.refl _, fun o h => by (cases h), fun _ => rfl⟩

theorem ne_of_pair {l : List O} {m : O} (h : (l ++ [m]).Pairwise (fun a b => a.f2 ≠ b.f2)) {b : O} (hb : b ∈ l) : b.f2 ≠ m.f2 := (List.pairwise_append.1 h).2.2 b hb m (by simp)

/-- What heap.Pop leaves, and what it takes: the least one. -/
theorem pop_split {l : List O} (hok : AllOk l) (h : Hp l l.length) (h1 : 1 ≤ l.length) (hd : l.Pairwise (fun a b => a.f2 ≠ b.f2)) :
    (popR l).dropLast ++ [(popR l).getD (l.length - 1) zO] = popR l ∧ (∀ b ∈ (popR l).dropLast, aboveB b ((popR l).getD (l.length - 1) zO) = true) ∧ Hp (popR l).dropLast (popR l).dropLast.length := by
  obtain ⟨h2, h3⟩ := pop_heap hok h h1
  have hlen := popR_len l
  have hne : popR l ≠ [] := fun e => by rw [e] at hlen; simp at hlen; omega
  have hgl : (popR l).getD (l.length - 1) zO = (popR l).getLast hne := by
    rw [List.getLast_eq_getElem, List.getD_eq_getElem?_getD, List.getElem?_eq_getElem (by omega)]
    simp [hlen]
  have hsp : (popR l).dropLast ++ [(popR l).getD (l.length - 1) zO] = popR l := by rw [hgl]; exact List.dropLast_concat_getLast hne
  refine ⟨hsp, fun b hb => ?_, by rw [← hlen] at h2; exact h2.dropLast⟩
  have hp := popR_perm l
  have hdp : (popR l).Pairwise (fun a b => a.f2 ≠ b.f2) := (hp.pairwise_iff (fun h => Ne.symm h)).2 hd
  rw [← hsp] at hdp
  have hbne := ne_of_pair hdp hb
  have hbl : b ∈ l := hp.mem_iff.1 (List.dropLast_subset _ hb)
  obtain ⟨j, hj, rfl⟩ := List.getElem_of_mem hbl
  have hmin := heap_min l l.length hok h j hj
  rw [← h3] at hmin
  rw [show l.getD j zO = l[j] by rw [List.getD_eq_getElem?_getD, List.getElem?_eq_getElem hj]; rfl] at hmin
  exact above_total (Ne.symm hbne) hmin

theorem Inv.add {keep : Int} {l L : List O} (h : Inv keep l L) (x : O) (hx : Ok x) (hp : x.f2 = L.length) : Inv keep (addL keep l x) (L ++ [x]) := by
  have hokL : AllOk (L ++ [x]) := fun o ho => by
    rcases List.mem_append.1 ho with h1 | h1
    · exact h.ok o h1
    · rw [List.mem_singleton.1 h1]; exact hx
  have hplL := h.pl.snoc hp
  have hph := push_heap h.okl hx h.heap
  have hpl := pushL_len l x
  have hperm := pushL_perm l x
  obtain ⟨rest, hr1, hr2, hr3⟩ := h.ex
  have hpok := pushL_ok h.okl hx
  have hlk := h.len
  unfold addL
  by_cases hc : keep + 1 < (pushL l x).length
  · rw [if_pos hc]
    have hall : (pushL l x ++ rest).Perm (L ++ [x]) := by
      refine (hperm.append_right rest).trans ?_
      rw [List.append_assoc]
      exact (List.Perm.append_left l List.perm_append_comm).trans (by rw [← List.append_assoc]; exact hr1.append_right [x])
    have hdl : (pushL l x ++ rest).Pairwise (fun a b => a.f2 ≠ b.f2) := (hall.pairwise_iff (fun h => Ne.symm h)).2 hplL.ne
    have hd := (List.pairwise_append.1 hdl).1
    obtain ⟨hs1, hs2, hs3⟩ := pop_split hpok (by rw [hpl]; exact hph) (by omega) hd
    generalize hm : (popR (pushL l x)).getD ((pushL l x).length - 1) zO = m at hs1 hs2
    have hpp := popR_perm (pushL l x)
    have hlen2 : (popR (pushL l x)).dropLast.length = l.length := by rw [List.length_dropLast, popR_len, hpl]; rfl
    refine ⟨hokL, hplL, hs3, by rw [hlen2]; omega, m :: rest, ?_, ?_, fun hh => by rw [hlen2] at hh; rw [hpl] at hc; omega⟩
    · refine List.Perm.trans ?_ hall
      rw [show (popR (pushL l x)).dropLast ++ m :: rest = ((popR (pushL l x)).dropLast ++ [m]) ++ rest by simp, hs1]
      exact hpp.append_right rest
    · intro r hr b hb
      rcases List.mem_cons.1 hr with rfl | hr
      · exact hs2 b hb
      · have hb' : b ∈ l ++ [x] := hperm.mem_iff.1 (hpp.mem_iff.1 (List.dropLast_subset _ hb))
        rcases List.mem_append.1 hb' with hb' | hb'
        · exact hr2 r hr b hb'
        · have hbx : b = x := List.mem_singleton.1 hb'
          have hm' : m ∈ l ++ [x] := hperm.mem_iff.1 (hpp.mem_iff.1 (by rw [← hs1]; simp))
          have hbm := hs2 b hb
          have hrl : r ∈ L := hr1.mem_iff.1 (List.mem_append_right _ hr)
          rcases List.mem_append.1 hm' with hm' | hm'
          · exact above_trans (by rw [hbx]; exact hx) (h.okl m hm') (h.ok r hrl) hbm (hr2 r hr m hm')
          · have hmx : m = x := List.mem_singleton.1 hm'
            rw [hbx, hmx, above_irrefl] at hbm
            cases hbm
  · rw [if_neg hc]
    rw [hpl] at hc
    have hrest : rest = [] := hr3 (by omega)
    subst hrest
    rw [List.append_nil] at hr1
    exact ⟨hokL, hplL, by rw [hpl]; exact hph, by rw [hpl]; omega, [], by rw [List.append_nil]; exact hperm.trans (hr1.append_right [x]), fun _ h => (by cases h), fun _ => rfl⟩

theorem rank_perm {L L' : List O} (h : L.Perm L') (o : O) : rank L o = rank L' o := h.countP_eq _
theorem rank_append (L L' : List O) (o : O) : rank (L ++ L') o = rank L o + rank L' o := List.countP_append
theorem rank_le (L : List O) (o : O) : rank L o ≤ L.length := List.countP_le_length
theorem rank_none {L : List O} {o : O} (h : ∀ x ∈ L, aboveB x o = false) : rank L o = 0 := by
  unfold rank
  rw [List.countP_eq_zero]
  intro x hx
  rw [h x hx]; simp
theorem rank_all {L : List O} {o : O} (h : ∀ x ∈ L, aboveB x o = true) : rank L o = L.length := by
  unfold rank
  rw [List.countP_eq_length]
  exact h
theorem rank_lt {L : List O} {o : O} (ho : o ∈ L) : rank L o < L.length := by
  rcases Nat.lt_or_ge (rank L o) L.length with h | h
  · exact h
  · have h2 : rank L o = L.length := Nat.le_antisymm (rank_le _ _) h
    unfold rank at h2
    rw [List.countP_eq_length] at h2
    have := h2 o ho
    rw [above_irrefl] at this
    cases this

theorem fullL_eq {keep : Int} {l L : List O} (h : Inv keep l L) : fullL keep l = fullL keep L := by
  obtain ⟨rest, hr1, hr2, hr3⟩ := h.ex
  have hl := hr1.length_eq
  rw [List.length_append] at hl
  have := h.len
  unfold fullL
  rw [decide_eq_decide]
  constructor
  · intro; omega
  · intro h1
    by_cases h2 : l.length < keep + 1
    · have := hr3 h2
      rw [this] at hl
      simp at hl
      omega
    · omega

theorem closeL_perm {keep M : Int} {l L : List O} (hk : 0 ≤ keep) (h : Inv keep l L) : (closeL keep M l).Perm (closeS keep M L) := by
  have hfl := fullL_eq h
  obtain ⟨rest, hr1, hr2, hr3⟩ := h.ex
  have hdl : (l ++ rest).Pairwise (fun a b => a.f2 ≠ b.f2) := (hr1.pairwise_iff (fun h => Ne.symm h)).2 h.pl.ne
  have hd := (List.pairwise_append.1 hdl).1
  unfold closeL closeS
  rw [← hfl]
  by_cases hf : fullL keep l = true
  · have hkl : keep < l.length := of_decide_eq_true hf
    have hlen : (l.length : Int) = keep + 1 := by have := h.len; omega
    obtain ⟨hs1, hs2, hs3⟩ := pop_split h.okl h.heap (by omega) hd
    have hb : barL keep l = (popR l).getD (l.length - 1) zO := by unfold barL; rw [if_pos hf]
    have hre : restL keep l = (popR l).dropLast := by unfold restL; rw [if_pos hf]
    rw [hb, hre]
    generalize (popR l).getD (l.length - 1) zO = m at *
    generalize hq : (popR l).dropLast = q at *
    have hql : (q.length : Int) = keep := by rw [← hq, List.length_dropLast, popR_len]; omega
    have hpq : (q ++ [m] ++ rest).Perm L := by rw [hs1]; exact ((popR_perm l).append_right rest).trans hr1
    have hmem : ∀ b ∈ q ++ [m], b ∈ l := fun b hb => (popR_perm l).mem_iff.1 (by rw [← hs1]; exact hb)
    have hrk : ∀ b, b ∈ q ++ [m] → rank L b = rank q b + rank [m] b := fun b hb => by
      rw [← rank_perm hpq, rank_append, rank_append, rank_none (fun r hr => above_asymm (hr2 r hr b (hmem b hb))), Nat.add_zero]
    have hrm : rank L m = q.length := by
      rw [hrk m (by simp), rank_all hs2, rank_none (L := [m]) (fun x hx => by rw [List.mem_singleton.1 hx]; exact above_irrefl _), Nat.add_zero]
    have hrq : ∀ b ∈ q, rank L b < q.length := fun b hb => by
      rw [hrk b (List.mem_append_left _ hb), rank_none (L := [m]) (fun x hx => by rw [List.mem_singleton.1 hx]; exact above_asymm (hs2 b hb)), Nat.add_zero]
      exact rank_lt hb
    have hrr : ∀ r ∈ rest, q.length + 1 ≤ rank L r := fun r hr => by
      rw [← rank_perm hpq, rank_append, rank_all (L := q ++ [m]) (fun x hx => hr2 r hr x (hmem x hx))]
      simp
    have hmL : m ∈ L := hpq.mem_iff.1 (by simp)
    have hbar : barS keep L = m := by
      unfold barS
      have huniq : ∀ o ∈ L, decide ((rank L o : Int) = keep) = true → o = m := fun o ho he => by
        have he := of_decide_eq_true he
        have ho' := hpq.mem_iff.2 ho
        rcases List.mem_append.1 ho' with h1 | h1
        · rcases List.mem_append.1 h1 with h2 | h2
          · have := hrq o h2; omega
          · exact List.mem_singleton.1 h2
        · have := hrr o h1; omega
      cases hfd : L.find? (fun o => decide ((rank L o : Int) = keep)) with
      | none =>
        rw [List.find?_eq_none] at hfd
        have := hfd m hmL
        rw [decide_eq_true (by omega)] at this
        exact absurd rfl this
      | some o => exact huniq o (List.mem_of_find?_eq_some hfd) (List.find?_some (p := fun o => decide ((rank L o : Int) = keep)) hfd)
    rw [hbar]
    refine List.Perm.map _ ?_
    refine List.Perm.trans ?_ (hpq.filter _)
    rw [List.filter_append, List.filter_append]
    have f1 : q.filter (fun o => decide ((rank L o : Int) < keep)) = q := List.filter_eq_self.2 (fun b hb => decide_eq_true (by have := hrq b hb; omega))
    have f2 : [m].filter (fun o => decide ((rank L o : Int) < keep)) = [] := List.filter_eq_nil_iff.2 (fun b hb => by rw [List.mem_singleton.1 hb, decide_eq_false (by omega)]; simp)
    have f3 : rest.filter (fun o => decide ((rank L o : Int) < keep)) = [] := List.filter_eq_nil_iff.2 (fun b hb => by rw [decide_eq_false (by have := hrr b hb; omega)]; simp)
    rw [f1, f2, f3, List.append_nil, List.append_nil]
  · have hf : fullL keep l = false := Bool.eq_false_iff.2 hf
    have hkl : ¬ keep < l.length := of_decide_eq_false hf
    have hrest : rest = [] := hr3 (by omega)
    subst hrest
    rw [List.append_nil] at hr1
    have hre : restL keep l = l := by unfold restL; rw [if_neg (by rw [hf]; simp)]
    have hfilt : L.filter (fun o => decide ((rank L o : Int) < keep)) = L := List.filter_eq_self.2 (fun b hb => decide_eq_true (by
      have := rank_lt hb
      have := hr1.length_eq
      omega))
    rw [hre, hfilt, hf]
    exact (hr1.map _).trans (by rw [show tellK false M (barL keep l) = tellK false M (barS keep L) from rfl])

theorem perm_sorted_eq : ∀ (a b : List K), a.Perm b → a.Pairwise (fun x y => x.f0 ≤ y.f0) → b.Pairwise (fun x y => x.f0 < y.f0) → a = b
  | a, [], hp, _, _ => hp.eq_nil
  | [], y :: t, hp, _, _ => absurd hp.symm.eq_nil (by simp)
  | x :: s, y :: t, hp, ha, hb => by
    have hx : x ∈ y :: t := hp.mem_iff.1 (by simp)
    have hy : y ∈ x :: s := hp.mem_iff.2 (by simp)
    rw [List.pairwise_cons] at ha hb
    have e : x = y := by
      rcases List.mem_cons.1 hx with e | h1
      · exact e
      · rcases List.mem_cons.1 hy with e | h2
        · exact e.symm
        · have := ha.1 y h2
          have := hb.1 x h1
          omega
    subst e
    rw [perm_sorted_eq s t (List.Perm.cons_inv hp) ha.2 hb.2]
theorem tellK_place (full : Bool) (M : Int) (bar o : O) : (tellK full M bar o).f0 = o.f2 := by
  unfold tellK
  split
  · exact countsV_place _ _ _
  · rfl
theorem closeS_sorted {keep M : Int} {L : List O} (h : Places L) : (closeS keep M L).Pairwise (fun x y => x.f0 < y.f0) := by
  unfold closeS
  rw [List.pairwise_map]
  refine (h.pair.filter _).imp (fun h => ?_)
  rw [tellK_place, tellK_place]
  exact h
theorem close_eq {keep M : Int} {l L : List O} {r : List K} (hk : 0 ≤ keep) (h : Inv keep l L) (hp : r.Perm (closeL keep M l)) (hs : r.Pairwise (fun x y => x.f0 ≤ y.f0)) : r = closeS keep M L :=
  perm_sorted_eq _ _ (hp.trans (closeL_perm hk h)) hs (closeS_sorted h.pl)
end Go.Proofs.Ythlmgamdnclmhaa.A

namespace Go.Proofs.Ythlmgamdnclmhaa.A
open Go Go.Proofs.Ythlmgamdnclmhaa.R
theorem two_close (M : Int) (x0 x1 : O) (h0 : x0.f2 = 0) (h1 : x1.f2 = 1) :
    ∃ k, closeS 1 M [x0, x1] = [k] ∧ k.f0 = if aboveB x1 x0 then 1 else 0 := by
  unfold closeS rank
  cases h : aboveB x1 x0 with
  | true =>
    refine ⟨tellK (fullL 1 [x0, x1]) M (barS 1 [x0, x1]) x1, ?_, by rw [tellK_place]; exact h1⟩
    simp [List.filter, List.countP, List.countP.go, above_irrefl, h, above_asymm h]
  | false =>
    have h2 : aboveB x0 x1 = true := above_total (by rw [h0, h1]; decide) h
    refine ⟨tellK (fullL 1 [x0, x1]) M (barS 1 [x0, x1]) x0, ?_, by rw [tellK_place]; exact h0⟩
    simp [List.filter, List.countP, List.countP.go, above_irrefl, h, h2]
theorem mul_lt_left (d a b : Int) (hd : 0 < d) : d * a < d * b ↔ a < b :=
  ⟨fun h => Int.lt_of_mul_lt_mul_left h (Int.le_of_lt hd), fun h => Int.mul_lt_mul_of_pos_left h hd⟩
theorem mul_lt_right (d a b : Int) (hd : 0 < d) : a * d < b * d ↔ a < b :=
  ⟨fun h => Int.lt_of_mul_lt_mul_right h (Int.le_of_lt hd), fun h => Int.mul_lt_mul_of_pos_right h hd⟩
theorem heavy_how (a b d : Int) (hd : 0 ≤ d) : aboveB ⟨b + 1, d, 1⟩ ⟨a + 1, d, 0⟩ = decide (a < b) := by
  rw [Bool.eq_iff_iff, above_iff, decide_eq_true_eq]
  show (a + 1) * (d + 1) < (b + 1) * (d + 1) ∨ ((b + 1) * (d + 1) = (a + 1) * (d + 1) ∧ (1 : Int) < 0) ↔ a < b
  rw [mul_lt_right _ _ _ (by omega)]
  omega
theorem heavy_not (a b d : Int) (hd : 0 ≤ d) : aboveB ⟨d + 1, a, 1⟩ ⟨d + 1, b, 0⟩ = decide (a < b) := by
  rw [Bool.eq_iff_iff, above_iff, decide_eq_true_eq]
  show (d + 1) * (a + 1) < (d + 1) * (b + 1) ∨ ((d + 1) * (b + 1) = (d + 1) * (a + 1) ∧ (1 : Int) < 0) ↔ a < b
  rw [mul_lt_left _ _ _ (by omega)]
  omega
end Go.Proofs.Ythlmgamdnclmhaa.A
