/- container/heap over the rows of offers. -/
import Derived.Test.YthlmgamdnclmhaaRx
import Derived.Test.YthlmgamdnclmhaaPP
import Derived.BigRegion
import Derived.WalkSpells
import Derived.WalkLawsBesides
namespace Go.Proofs.Ythlmgamdnclmhaa.A
open Go.RowKit Go.Proofs.YthlmgamdnclmhaaW.PrintWords Go.Proofs.YthlmgamdnclmhaaW.PrintLast Go.Proofs.YthlmgamdnclmhaaW.PrintMore Go.Proofs.Ythlmgamdnclmhaa.R
set_option linter.unusedVariables false
set_option linter.unusedSimpArgs false

def enc56 (o : S56) : List Value := [.int .u64 o.f0, .int .u64 o.f1, .int .i64 o.f2]
def flat (l : List S56) : List Value := l.flatMap enc56
theorem flat_len (l : List S56) : (flat l).length = 3 * l.length := by
  induction l with
  | nil => rfl
  | cons x r ih => simp only [flat, List.flatMap_cons, List.length_append, List.length_cons] at *; rw [ih]; simp [enc56]; omega
theorem flat_nil : flat [] = [] := rfl
theorem flat_append (l r : List S56) : flat (l ++ r) = flat l ++ flat r := by simp [flat]
theorem flat_get (l : List S56) (m c : Nat) (x : S56) (hm : l[m]? = some x) (hc : c < 3) : (flat l)[3 * m + c]? = (enc56 x)[c]? := by
  induction l generalizing m with
  | nil => simp at hm
  | cons y r ih =>
    cases m with
    | zero =>
      obtain rfl : y = x := by simpa using hm
      show (enc56 y ++ flat r)[3 * 0 + c]? = _
      rw [List.getElem?_append_left (by simp [enc56]; omega)]
      simp
    | succ m =>
      show (enc56 y ++ flat r)[3 * (m + 1) + c]? = _
      rw [List.getElem?_append_right (by simp [enc56]; omega), ← ih m (by simpa using hm)]
      congr 1
      simp [enc56]; omega

theorem flat_set (l : List S56) (i : Nat) (hi : i < l.length) (o : S56) : (((flat l).set (i * 3) (.int .u64 o.f0)).set (i * 3 + 1) (.int .u64 o.f1)).set (i * 3 + 2) (.int .i64 o.f2) = flat (l.set i o) := by
  induction l generalizing i with
  | nil => simp at hi
  | cons y r ih =>
    cases i with
    | zero => rfl
    | succ i =>
      have h := ih i (by simpa using hi)
      show (((enc56 y ++ flat r).set ((i + 1) * 3) _).set ((i + 1) * 3 + 1) _).set ((i + 1) * 3 + 2) _ = enc56 y ++ flat (r.set i o)
      rw [← h]
      have e : (i + 1) * 3 = i * 3 + 1 + 1 + 1 := by omega
      rw [e]
      rfl

/-- A row of offers: what its block holds. -/
theorem own_open {w : World} {b n cap : Nat} {l : List S56} (h : w.ownsRow 0 56 3 (.slice (some ⟨b, 0, none⟩) n cap) n (flat l)) :
    ∃ cur : Array Value, w.heap[b]? = some (.cells cur 56 (0, 0)) ∧ l.length = n ∧ n ≤ cap ∧ cap ≤ maxLen ∧ cur.size = cap * 3 ∧ cur.toList.take (n * 3) = flat l := by
  obtain ⟨h1, h2⟩ := h
  rw [flat_len] at h1
  rcases h2 with ⟨h2, _⟩ | ⟨g, c, cur, h2, hg, hb, hnc, hc, hs, ht⟩
  · cases h2
  · cases h2
    exact ⟨cur, hb, by omega, hnc, hc, hs, ht⟩
theorem own_shut {w : World} {b n cap : Nat} {l : List S56} {cur : Array Value} (hb : w.heap[b]? = some (.cells cur 56 (0, 0))) (hl : l.length = n) (hn : n ≤ cap) (hc : cap ≤ maxLen) (hs : cur.size = cap * 3) (ht : cur.toList.take (n * 3) = flat l) :
    w.ownsRow 0 56 3 (.slice (some ⟨b, 0, none⟩) n cap) n (flat l) :=
  ⟨by rw [flat_len, hl, Nat.mul_comm], .inr ⟨b, cap, cur, rfl, Nat.zero_le _, hb, hn, hc, hs, ht⟩⟩
theorem cur_get {cur : Array Value} {l : List S56} {n i : Nat} {x : S56} (ht : cur.toList.take (n * 3) = flat l) (hl : l.length = n) (hx : l[i]? = some x) :
    cur[i * 3]? = some (.int .u64 x.f0) ∧ cur[i * 3 + 1]? = some (.int .u64 x.f1) ∧ cur[i * 3 + 2]? = some (.int .i64 x.f2) := by
  have hi : i < n := by rw [← hl]; exact (List.getElem?_eq_some_iff.1 hx).1
  have key : ∀ c, c < 3 → cur[i * 3 + c]? = (enc56 x)[c]? := fun c hc => by
    rw [← flat_get l i c x hx hc, ← ht, List.getElem?_take_of_lt (by omega), Array.getElem?_toList, Nat.mul_comm]
  exact ⟨key 0 (by omega), key 1 (by omega), key 2 (by omega)⟩
theorem cur_set {cur : Array Value} {l : List S56} {n i : Nat} (ht : cur.toList.take (n * 3) = flat l) (hl : l.length = n) (hi : i < n) (o : S56) :
    (((cur.setIfInBounds (i * 3) (.int .u64 o.f0)).setIfInBounds (i * 3 + 1) (.int .u64 o.f1)).setIfInBounds (i * 3 + 2) (.int .i64 o.f2)).toList.take (n * 3) = flat (l.set i o) := by
  simp only [Array.toList_setIfInBounds, List.take_set, ht]
  exact flat_set l i (by omega) o

/-- The runs of a method by which a value's method is reached through a pointer to it. -/
theorem m_less0 (a : Addr) (w : World) : (method 237 58 (.pointer (some a)) "Less").run Try.prog w = ((do let v ← loadVar 52 a; pure (84, v)) : Sem (FuncId × Value)).run Try.prog w := by kernel_rfl
theorem m_swap0 (a : Addr) (w : World) : (method 237 58 (.pointer (some a)) "Swap").run Try.prog w = ((do let v ← loadVar 52 a; pure (85, v)) : Sem (FuncId × Value)).run Try.prog w := by kernel_rfl
theorem m_len0 (a : Addr) (w : World) : (method 237 58 (.pointer (some a)) "Len").run Try.prog w = ((do let v ← loadVar 52 a; pure (83, v)) : Sem (FuncId × Value)).run Try.prog w := by kernel_rfl
theorem m_push (a : Addr) (w : World) : (method 237 58 (.pointer (some a)) "Push").run Try.prog w = .ok (88, .pointer (some a)) w := by kernel_rfl
theorem m_pop (a : Addr) (w : World) : (method 237 58 (.pointer (some a)) "Pop").run Try.prog w = .ok (87, .pointer (some a)) w := by kernel_rfl
theorem m_less (a : Addr) (w : World) (ao : Option Addr) (n c : Nat) (h : w.cell? a = some (.slice ao n c)) : (method 237 58 (.pointer (some a)) "Less").run Try.prog w = .ok (84, .slice ao n c) w := by
  rw [m_less0]; go_simp
theorem m_swap (a : Addr) (w : World) (ao : Option Addr) (n c : Nat) (h : w.cell? a = some (.slice ao n c)) : (method 237 58 (.pointer (some a)) "Swap").run Try.prog w = .ok (85, .slice ao n c) w := by
  rw [m_swap0]; go_simp
theorem m_len (a : Addr) (w : World) (ao : Option Addr) (n c : Nat) (h : w.cell? a = some (.slice ao n c)) : (method 237 58 (.pointer (some a)) "Len").run Try.prog w = .ok (83, .slice ao n c) w := by
  rw [m_len0]; go_simp


/-- What a world keeps: all blocks but those of S. -/
structure Chg (S : Nat → Prop) (w w' : World) : Prop where
  os : w'.os = w.os
  tape : w'.tape = w.tape
  output : w'.output = w.output
  size : w.heap.size ≤ w'.heap.size
  block : ∀ k, k < w.heap.size → ¬ S k → w'.heap[k]? = w.heap[k]?
theorem Chg.refl (S : Nat → Prop) (w : World) : Chg S w w := ⟨rfl, rfl, rfl, Nat.le_refl _, fun _ _ _ => rfl⟩
theorem Chg.trans {S T : Nat → Prop} {a b c : World} (h : Chg S a b) (k : Chg T b c) (ht : ∀ x, T x → S x ∨ a.heap.size ≤ x) : Chg S a c :=
  ⟨k.os.trans h.os, k.tape.trans h.tape, k.output.trans h.output, Nat.le_trans h.size k.size, fun i hi hn => (k.block i (Nat.lt_of_lt_of_le hi h.size) (fun h2 => (ht i h2).elim hn (fun h3 => by omega))).trans (h.block i hi hn)⟩
theorem Chg.of_below {w w' : World} (h : Below w.heap.size w w') (S : Nat → Prop) : Chg S w w' := ⟨h.os, h.tape, h.output, h.size, fun k hk _ => h.block k hk⟩
theorem Chg.below {S : Nat → Prop} {w w' w2 : World} (h : Chg S w w') (hb : Below w'.heap.size w' w2) : Chg S w w2 := h.trans (Chg.of_below hb (fun _ => False)) (fun _ hx => hx.elim)
theorem Chg.mono {S T : Nat → Prop} {w w' : World} (h : Chg S w w') (hs : ∀ x, S x → T x) : Chg T w w' := ⟨h.os, h.tape, h.output, h.size, fun k hk hn => h.block k hk (fun hx => hn (hs k hx))⟩
theorem Chg.set {S : Nat → Prop} {w w' : World} (h : Chg S w w') (a : Addr) (v : Value) (ha : S a.block ∨ w.heap.size ≤ a.block) : Chg S w (w'.setCell a v) :=
  h.trans (T := fun k => k = a.block) ⟨rfl, rfl, rfl, by simp [World.setCell], fun i _ hn => Below.heap_setCell w' a v i hn⟩ (fun x hx => by subst hx; exact ha)
theorem Chg.setb {b : Nat} {w w' : World} (h : Chg (fun k => k = b) w w') (o : Nat) (v : Value) : Chg (fun k => k = b) w (w'.setCell ⟨b, o, none⟩ v) := h.set ⟨b, o, none⟩ v (.inl rfl)
theorem Chg.drew {S : Nat → Prop} {w w' : World} (h : Chg S w w') : Chg S w w'.drew := ⟨h.os, h.tape, h.output, h.size, h.block⟩
theorem Chg.drewN {S : Nat → Prop} {w w' : World} (h : Chg S w w') (n : Nat) : Chg S w (w'.drewN n) := ⟨h.os, h.tape, h.output, h.size, h.block⟩
theorem Chg.alloc {S : Nat → Prop} {w w' : World} (h : Chg S w w') (o : Obj) : Chg S w (w'.alloc o) := h.below (below_alloc (Below.refl _ _) o)
theorem Chg.blk {S : Nat → Prop} {w w' : World} (h : Chg S w w') {k : Nat} {o : Obj} (hb : w.heap[k]? = some o) (hn : ¬ S k) : w'.heap[k]? = some o := (h.block k (blk_lt hb) hn).trans hb
theorem Chg.cell {S : Nat → Prop} {w w' : World} (h : Chg S w w') {a : Addr} {v : Value} (hc : w.cell? a = some v) (hn : ¬ S a.block) : w'.cell? a = some v := by
  have := h.block a.block (World.block_lt_of_cell? w a hc) hn
  simpa [World.cell?, this] using hc
theorem Chg.frozen {S : Nat → Prop} {w w' : World} (h : Chg S w w') {a : Addr} (ha : a.block < w.heap.size) (hn : ¬ S a.block) : w'.frozen? a = w.frozen? a := by
  have := h.block a.block ha hn
  simp [World.frozen?, this]

set_option maxHeartbeats 4000000 in
set_option maxRecDepth 100000 in
/-- SWAP: two offers of the row change places. -/
theorem Swap_calls (b n cap i j : Nat) (l : List S56) (w : World) (hi : i < n) (hj : j < n) (hne : i ≠ j)
    (ho : w.ownsRow 0 56 3 (.slice (some ⟨b, 0, none⟩) n cap) n (flat l)) :
    Calls Try.prog 85 #[.slice (some ⟨b, 0, none⟩) n cap, .int .i64 i, .int .i64 j] w fun e w' => e = .returned (.tuple #[]) ∧ w'.ownsRow 0 56 3 (.slice (some ⟨b, 0, none⟩) n cap) n (flat (swp l i j)) ∧ Chg (fun k => k = b) w w' := by
  obtain ⟨cur, hb, hl, hnc, hcm, hs, ht⟩ := own_open ho
  obtain ⟨x, hx⟩ : ∃ x, l[i]? = some x := ⟨l[i]'(by omega), List.getElem?_eq_getElem (by omega)⟩
  obtain ⟨y, hy⟩ : ∃ y, l[j]? = some y := ⟨l[j]'(by omega), List.getElem?_eq_getElem (by omega)⟩
  have hx' : l.getD i zO = x := by simp [hx]
  have hy' : l.getD j zO = y := by simp [hy]
  obtain ⟨cx0, cx1, cx2⟩ := cur_get ht hl hx
  obtain ⟨cy0, cy1, cy2⟩ := cur_get ht hl hy
  have hx0 := (blk_cell hb (i * 3)).trans cx0
  have hx1 := (blk_cell hb (i * 3 + 1)).trans cx1
  have hx2 := (blk_cell hb (i * 3 + 2)).trans cx2
  have hy0 := (blk_cell hb (j * 3)).trans cy0
  have hy1 := (blk_cell hb (j * 3 + 1)).trans cy1
  have hy2 := (blk_cell hb (j * 3 + 2)).trans cy2
  have hf := fun k => blk_frozen hb k
  have hm : n ≤ 9223372036854775807 := by unfold maxLen at hcm; omega
  have fin : (((((((w.setCell ⟨b, i * 3, none⟩ (.int .u64 y.f0)).setCell ⟨b, i * 3 + 1, none⟩ (.int .u64 y.f1)).setCell ⟨b, i * 3 + 2, none⟩ (.int .i64 y.f2)).setCell ⟨b, j * 3, none⟩ (.int .u64 x.f0)).setCell ⟨b, j * 3 + 1, none⟩ (.int .u64 x.f1)).setCell ⟨b, j * 3 + 2, none⟩ (.int .i64 x.f2)).drew).ownsRow 0 56 3 (.slice (some ⟨b, 0, none⟩) n cap) n (flat (swp l i j)) ∧
      Chg (fun k => k = b) w (((((((w.setCell ⟨b, i * 3, none⟩ (.int .u64 y.f0)).setCell ⟨b, i * 3 + 1, none⟩ (.int .u64 y.f1)).setCell ⟨b, i * 3 + 2, none⟩ (.int .i64 y.f2)).setCell ⟨b, j * 3, none⟩ (.int .u64 x.f0)).setCell ⟨b, j * 3 + 1, none⟩ (.int .u64 x.f1)).setCell ⟨b, j * 3 + 2, none⟩ (.int .i64 x.f2)).drew) := by
    have hb' := blk_drew (blk_set (blk_set (blk_set (blk_set (blk_set (blk_set hb (i * 3) (.int .u64 y.f0)) (i * 3 + 1) (.int .u64 y.f1)) (i * 3 + 2) (.int .i64 y.f2)) (j * 3) (.int .u64 x.f0)) (j * 3 + 1) (.int .u64 x.f1)) (j * 3 + 2) (.int .i64 x.f2))
    refine ⟨own_shut hb' (by rw [swp_len]; exact hl) hnc hcm (by simp [hs]) ?_, Chg.drew (Chg.setb (Chg.setb (Chg.setb (Chg.setb (Chg.setb (Chg.setb (Chg.refl _ _) _ _) _ _) _ _) _ _) _ _) _ _)⟩
    unfold swp
    rw [hx', hy']
    exact cur_set (cur_set ht hl hi y) (by simpa using hl) hj x
  have Fin := Aside0.mk fin
  clear fin hx hy hx' hy' cx0 cx1 cx2 cy0 cy1 cy2 hb hl hnc hcm hs ht ho
  go_enter Try.func85, Try.ntmps85
  go_wp2
  go_region
  go_end0
  exact ⟨rfl, Fin.out⟩
end Go.Proofs.Ythlmgamdnclmhaa.A

namespace Go.Proofs.Ythlmgamdnclmhaa.A
open Go.RowKit Go.Proofs.YthlmgamdnclmhaaW.PrintWords Go.Proofs.YthlmgamdnclmhaaW.PrintLast Go.Proofs.YthlmgamdnclmhaaW.PrintMore Go.Proofs.Ythlmgamdnclmhaa.R
set_option linter.unusedVariables false
set_option linter.unusedSimpArgs false

/-- ABOVE, as printed, of offers in range. -/
theorem above_f (o x : O) (ho : Ok o) (hx : Ok x) : prio_offer_above.f o.f0 o.f1 o.f2 x.f0 x.f1 x.f2 = some (aboveB o x) := by
  have n1 : prio_next.f o.f0 x.f1 = some (o.f0 * (x.f1 + 1) / K64, o.f0 * (x.f1 + 1) % K64) := if_pos ⟨⟨ho.w0, ho.w1⟩, hx.d0, hx.d1⟩
  have n2 : prio_next.f x.f0 o.f1 = some (x.f0 * (o.f1 + 1) / K64, x.f0 * (o.f1 + 1) % K64) := if_pos ⟨⟨hx.w0, hx.w1⟩, ho.d0, ho.d1⟩
  have p1 : 0 ≤ o.f0 * (x.f1 + 1) := Int.mul_nonneg ho.w0 (by have := hx.d0; omega)
  have p2 : 0 ≤ x.f0 * (o.f1 + 1) := Int.mul_nonneg hx.w0 (by have := ho.d0; omega)
  have a1 : prio_Above.f o.f0 o.f1 x.f0 x.f1 = some (decide (x.f0 * (o.f1 + 1) < o.f0 * (x.f1 + 1))) := by
    unfold prio_Above.f prio_wide_above.f
    rw [n1, n2]
    simp only [Option.bind_some]
    generalize o.f0 * (x.f1 + 1) = s at *
    generalize x.f0 * (o.f1 + 1) = t at *
    unfold K64
    split
    · rw [Option.bind_some, decide_eq_true (by omega)]
    · split
      · rw [Option.bind_some]; congr 1; rw [decide_eq_decide]; omega
      · rw [Option.bind_some, decide_eq_false (by omega)]
  have a2 : prio_Above.f x.f0 x.f1 o.f0 o.f1 = some (decide (o.f0 * (x.f1 + 1) < x.f0 * (o.f1 + 1))) := by
    unfold prio_Above.f prio_wide_above.f
    rw [n1, n2]
    simp only [Option.bind_some]
    generalize o.f0 * (x.f1 + 1) = s at *
    generalize x.f0 * (o.f1 + 1) = t at *
    unfold K64
    split
    · rw [Option.bind_some, decide_eq_true (by omega)]
    · split
      · rw [Option.bind_some]; congr 1; rw [decide_eq_decide]; omega
      · rw [Option.bind_some, decide_eq_false (by omega)]
  unfold prio_offer_above.f aboveB
  rw [a1, a2]
  simp only [Option.bind_some]
  by_cases c1 : x.f0 * (o.f1 + 1) < o.f0 * (x.f1 + 1)
  · simp [c1]
  · by_cases c2 : o.f0 * (x.f1 + 1) < x.f0 * (o.f1 + 1) <;> simp [c1, c2]

theorem own_C {w : World} {b n cap : Nat} {l : List O} (h : w.ownsRow 0 56 3 (.slice (some ⟨b, 0, none⟩) n cap) n (flat l)) : Kd.C k56 w (some ⟨b, 0, none⟩) l.length l ∧ l.length = n ∧ n ≤ cap := by
  obtain ⟨cur, hb, hl, hnc, hcm, hs, ht⟩ := own_open h
  refine ⟨⟨rfl, by unfold maxLen at hcm; omega, fun _ => ⟨⟨b, 0, none⟩, rfl, fun j p hp => ⟨[.int .u64 p.f0, .int .u64 p.f1, .int .i64 p.f2], rfl, k56_mk _ _, fun i u hu => ?_⟩⟩⟩, hl, hnc⟩
  obtain ⟨c0, c1, c2⟩ := cur_get ht hl hp
  have e : (⟨b, 0, none⟩ : Addr).add (j * 3 + i) = ⟨b, j * 3 + i, none⟩ := add_plain _ _
  have hk : k56.sz = 3 := rfl
  rw [hk, e, blk_cell hb]
  match i, hu with
  | 0, hu => rw [← hu]; exact c0
  | 1, hu => rw [← hu]; exact c1
  | 2, hu => rw [← hu]; exact c2
  | i + 3, hu => simp at hu

/-- LESS: the later one above the earlier one. -/
theorem Less_calls (b n cap i j : Nat) (l : List O) (w : World) (hi : i < n) (hj : j < n) (hok : AllOk l)
    (ho : w.ownsRow 0 56 3 (.slice (some ⟨b, 0, none⟩) n cap) n (flat l)) :
    Calls Try.prog 84 #[.slice (some ⟨b, 0, none⟩) n cap, .int .i64 i, .int .i64 j] w fun e w' => e = .returned (.bool (lessL l i j)) ∧ Below w.heap.size w w' := by
  obtain ⟨hC, hl, hnc⟩ := own_C ho
  have hf : prio_least_Less.f l i j = some (lessL l i j) := by
    unfold prio_least_Less.f lessL
    rw [if_pos (by omega), if_pos (by omega), if_pos (by omega), if_pos (by omega)]
    have e1 : rd_T56 l (j : Int) = l.getD j zO := by unfold rd_T56; rw [Int.toNat_natCast]; rfl
    have e2 : rd_T56 l (i : Int) = l.getD i zO := by unfold rd_T56; rw [Int.toNat_natCast]; rfl
    rw [e1, e2, above_f _ _ (getD_ok hok j) (getD_ok hok i)]
    rfl
  have := prio_least_Less.calls (some ⟨b, 0, none⟩) cap l i j _ w hC (by omega) hf
  rwa [hl] at this

set_option maxHeartbeats 4000000 in
set_option maxRecDepth 100000 in
theorem up_calls (a : Addr) (b n cap j : Nat) (l : List O) (w : World) (hj : j < n) (hok : AllOk l) (hc : w.cell? a = some (.slice (some ⟨b, 0, none⟩) n cap)) (hab : a.block ≠ b)
    (ho : w.ownsRow 0 56 3 (.slice (some ⟨b, 0, none⟩) n cap) n (flat l)) :
    Calls Try.prog 32 #[.iface 58 (.pointer (some a)), .int .i64 j] w fun e w' => e = .returned (.tuple #[]) ∧ w'.ownsRow 0 56 3 (.slice (some ⟨b, 0, none⟩) n cap) n (flat (upL (j + 1) l j)) ∧ Chg (fun k => k = b) w w' := by
  have hcap : n ≤ 9223372036854775807 := by
    obtain ⟨cur, hb, hl, hnc, hcm, hs, ht⟩ := own_open ho
    unfold maxLen at hcm; omega
  have Ho := Aside0.mk ho
  have Hok := Aside0.mk hok
  have Hc := Aside0.mk hc
  have Hab := Aside0.mk hab
  clear ho hok hc hab
  go_enter Try.func32, Try.ntmps32
  go_wp2
  go_loopg [1] (j + 1) (fun gk v wr => ∃ (jn : Nat) (ln : List O), v = .int .i64 jn ∧ Aside0 (jn < gk ∧ jn < n) ∧ Aside0 (upL gk ln jn = upL (j + 1) l j) ∧ Aside0 (AllOk ln) ∧ Aside0 (wr.ownsRow 0 56 3 (.slice (some ⟨b, 0, none⟩) n cap) n (flat ln)) ∧ Aside0 (Chg (fun k => k = b) w wr))
  case atStart => exact ⟨j, l, rfl, ⟨by omega, hj⟩, ⟨rfl⟩, Hok, Ho, ⟨Chg.refl _ _⟩⟩
  case round =>
    obtain ⟨jn, ln, rfl, H1, H2, H3, H4, H5⟩ := hrel
    by_cases h0 : jn = 0
    · subst h0
      have hfin : ln = upL (j + 1) l j := by
        rw [← H2.out]
        cases gk with
        | zero => rfl
        | succ k => simp [upL]
      go_wp2_with fail
      go_end0
      exact ⟨rfl, by rw [← hfin]; exact H4.out, H5.out⟩
    · have h1 : 1 ≤ jn := by omega
      have h2 : jn < n := H1.out.2
      have hcell := H5.out.cell Hc.out Hab.out
      have hml := m_less a wr _ _ _ hcell
      have Hcell := Aside0.mk hcell
      have hne : (((jn : Int) - 1) / 2 == (jn : Int)) = false := beq_eq_false_iff_ne.2 (by omega)
      have hle := Less_calls b n cap jn ((jn - 1) / 2) ln wr h2 (by omega) H3.out H4.out
      have eqi : (((jn - 1) / 2 : Nat) : Int) = ((jn : Int) - 1) / 2 := by omega
      rw [eqi] at hle
      have Hle := Aside0.mk hle
      clear hcell hle eqi
      go_wp2_with fail
      refine Hle.out.mono ?_
      rintro e w1 ⟨rfl, hb1⟩
      clear hml
      have H6 := Aside0.mk (H5.out.below hb1)
      have H7 := Aside0.mk (pw_own_below H4.out hb1)
      cases hL : lessL ln jn ((jn - 1) / 2) with
      | false =>
        have hfin : ln = upL (j + 1) l j := by
          rw [← H2.out]
          cases gk with
          | zero => rfl
          | succ k => simp [upL, h0, hL]
        go_wp2_with fail
        go_end0
        exact ⟨rfl, by rw [← hfin]; exact H7.out, H6.out⟩
      | true =>
        have hnext : upL (gk - 1) (swp ln ((jn - 1) / 2) jn) ((jn - 1) / 2) = upL (j + 1) l j := by
          rw [← H2.out]
          cases gk with
          | zero => exact absurd H1.out.1 (by omega)
          | succ k => simp [upL, h0, hL]
        have Hn := Aside0.mk hnext
        clear hnext hL
        have hcell := H6.out.cell Hc.out Hab.out
        have hms := m_swap a w1 _ _ _ hcell
        have hsw := Swap_calls b n cap ((jn - 1) / 2) jn ln w1 (by omega) h2 (by omega) H7.out
        have eqi : (((jn - 1) / 2 : Nat) : Int) = ((jn : Int) - 1) / 2 := by omega
        rw [eqi] at hsw
        have Hsw := Aside0.mk hsw
        clear hcell hsw eqi
        go_wp2_with fail
        refine Hsw.out.mono ?_
        rintro e w2 ⟨rfl, ho2, hc2⟩
        clear hms
        go_wp2_with fail
        go_roundg (gk - 1)
        case measure => have := H1.out; omega
        case rel => exact ⟨(jn - 1) / 2, swp ln ((jn - 1) / 2) jn, by congr 1; omega, ⟨by have := H1.out; omega⟩, Hn, ⟨swp_ok H3.out _ _⟩, ⟨ho2⟩, ⟨H6.out.trans hc2 (fun x hx => .inl hx)⟩⟩
end Go.Proofs.Ythlmgamdnclmhaa.A

namespace Go.Proofs.Ythlmgamdnclmhaa.A
open Go.RowKit Go.Proofs.YthlmgamdnclmhaaW.PrintWords Go.Proofs.YthlmgamdnclmhaaW.PrintLast Go.Proofs.YthlmgamdnclmhaaW.PrintMore Go.Proofs.Ythlmgamdnclmhaa.R
set_option linter.unusedVariables false
set_option linter.unusedSimpArgs false

set_option maxHeartbeats 4000000 in
set_option maxRecDepth 100000 in
theorem down_calls (a : Addr) (b N cap i0 n : Nat) (l : List O) (w : World) (hi : i0 < n) (hn : n ≤ N) (hN : N ≤ 1099511627776) (hok : AllOk l) (hc : w.cell? a = some (.slice (some ⟨b, 0, none⟩) N cap)) (hab : a.block ≠ b)
    (ho : w.ownsRow 0 56 3 (.slice (some ⟨b, 0, none⟩) N cap) N (flat l)) :
    Calls Try.prog 33 #[.iface 58 (.pointer (some a)), .int .i64 i0, .int .i64 n] w fun e w' => e = .returned (.bool (decide (i0 < (downL n l i0 n).2))) ∧ w'.ownsRow 0 56 3 (.slice (some ⟨b, 0, none⟩) N cap) N (flat (downL n l i0 n).1) ∧ Chg (fun k => k = b) w w' := by
  have Ho := Aside0.mk ho
  have Hok := Aside0.mk hok
  have Hc := Aside0.mk hc
  have Hab := Aside0.mk hab
  clear ho hok hc hab
  go_enter Try.func33, Try.ntmps33
  go_wp2
  go_loopg [7] n (fun gk v wr => ∃ (i : Nat) (ln : List O), v = .int .i64 i ∧ Aside0 (n ≤ gk + i ∧ i < n) ∧ Aside0 (downL gk ln i n = downL n l i0 n) ∧ Aside0 (AllOk ln) ∧ Aside0 (wr.ownsRow 0 56 3 (.slice (some ⟨b, 0, none⟩) N cap) N (flat ln)) ∧ Aside0 (Chg (fun k => k = b) w wr))
  case atStart => exact ⟨i0, l, rfl, ⟨by omega, hi⟩, ⟨rfl⟩, Hok, Ho, ⟨Chg.refl _ _⟩⟩
  case round =>
    obtain ⟨i, ln, rfl, H1, H2, H3, H4, H5⟩ := hrel
    have hin : i < n := H1.out.2
    cases gk with
    | zero => exact absurd H1.out (by omega)
    | succ gk =>
    have h2 := H2.out
    simp only [downL] at h2
    by_cases h1 : n ≤ 2 * i + 1
    · rw [if_pos h1] at h2
      have hf1 : (downL n l i0 n).1 = ln := by rw [← h2]
      have hf2 : (downL n l i0 n).2 = i := by rw [← h2]
      have F1 := Aside0.mk hf1
      have F2 := Aside0.mk hf2
      clear hf1 hf2 h2
      go_wp2_with fail
      go_ret
      exact ⟨by rw [F2.out]; simp, by rw [F1.out]; exact H4.out, H5.out⟩
    · rw [if_neg h1] at h2
      have hcl := childL_lt ln i n (by omega)
      have hce : childL ln i n = if 2 * i + 2 < n ∧ lessL ln (2 * i + 2) (2 * i + 1) = true then 2 * i + 2 else 2 * i + 1 := rfl
      have H8 := Aside0.mk hcl
      clear hcl
      by_cases h3 : 2 * i + 2 < n
      · have hcell := H5.out.cell Hc.out Hab.out
        have hml := m_less a wr _ _ _ hcell
        have hle := Less_calls b N cap (2 * i + 2) (2 * i + 1) ln wr (by omega) (by omega) H3.out H4.out
        have eqi : ((2 * i + 2 : Nat) : Int) = 2 * (i : Int) + 1 + 1 := by omega
        have eqj : ((2 * i + 1 : Nat) : Int) = 2 * (i : Int) + 1 := by omega
        rw [eqi, eqj] at hle
        have Hle := Aside0.mk hle
        have H6 := Aside0.mk h2
        have H7 := Aside0.mk hce
        clear hcell hle eqi eqj h2 hce
        go_wp2_with fail
        refine Hle.out.mono ?_
        rintro e w1 ⟨rfl, hb1⟩
        clear hml
        have H50 := Aside0.mk (H5.out.below hb1)
        have H40 := Aside0.mk (pw_own_below H4.out hb1)
        cases hL1 : lessL ln (2 * i + 2) (2 * i + 1) with
        | true =>
          have hch : childL ln i n = 2 * i + 2 := by rw [H7.out, if_pos ⟨h3, hL1⟩]
          have h2 := H6.out
          clear hL1 H6 H7
          have hcl := H8.out
          rw [hch] at h2
          have hcb : 2 * i + 2 < n := by omega
          have hcell := (H50.out).cell Hc.out Hab.out
          have hml := m_less a w1 _ _ _ hcell
          have hle := Less_calls b N cap (2 * i + 2) i ln w1 (by omega) (by omega) H3.out H40.out
          have eqi : ((2 * i + 2 : Nat) : Int) = 2 * (i : Int) + 1 + 1 := by omega
          rw [eqi] at hle
          have Hle := Aside0.mk hle
          have H6 := Aside0.mk h2
          clear hcell hle eqi h2 hch hcl
          go_wp2_with fail
          refine Hle.out.mono ?_
          rintro e w8 ⟨rfl, hb8⟩
          clear hml
          have H9 := Aside0.mk ((H50.out).below hb8)
          have H10 := Aside0.mk (pw_own_below (H40.out) hb8)
          cases hL : lessL ln (2 * i + 2) i with
          | false =>
            have h6 := H6.out
            rw [hL, if_neg (by simp)] at h6
            have hf1 : (downL n l i0 n).1 = ln := by rw [← h6]
            have hf2 : (downL n l i0 n).2 = i := by rw [← h6]
            have F1 := Aside0.mk hf1
            have F2 := Aside0.mk hf2
            clear hf1 hf2 h6 hL
            go_wp2_with fail
            go_ret
            exact ⟨by rw [F2.out]; simp, by rw [F1.out]; exact H10.out, H9.out⟩
          | true =>
            have h6 := H6.out
            rw [hL, if_pos rfl] at h6
            have Hn := Aside0.mk h6
            clear h6 hL
            have hcell := H9.out.cell Hc.out Hab.out
            have hms := m_swap a w8 _ _ _ hcell
            have hsw := Swap_calls b N cap i (2 * i + 2) ln w8 (by omega) (by omega) (by omega) H10.out
            have eqi : ((2 * i + 2 : Nat) : Int) = 2 * (i : Int) + 1 + 1 := by omega
            rw [eqi] at hsw
            have Hsw := Aside0.mk hsw
            clear hcell hsw eqi
            go_wp2_with fail
            refine Hsw.out.mono ?_
            rintro e w9 ⟨rfl, ho2, hc2⟩
            clear hms
            go_wp2_with fail
            go_roundg gk
            case measure => omega
            case rel => exact ⟨2 * i + 2, swp ln i (2 * i + 2), by congr 1, ⟨by have := H1.out; omega, hcb⟩, Hn, ⟨swp_ok H3.out _ _⟩, ⟨ho2⟩, ⟨H9.out.trans hc2 (fun x hx => .inl hx)⟩⟩
        | false =>
          have hch : childL ln i n = 2 * i + 1 := by rw [H7.out, if_neg (by simp [hL1])]
          have h2 := H6.out
          clear hL1 H6 H7
          have hcl := H8.out
          rw [hch] at h2
          have hcb : 2 * i + 1 < n := by omega
          have hcell := (H50.out).cell Hc.out Hab.out
          have hml := m_less a w1 _ _ _ hcell
          have hle := Less_calls b N cap (2 * i + 1) i ln w1 (by omega) (by omega) H3.out H40.out
          have eqi : ((2 * i + 1 : Nat) : Int) = 2 * (i : Int) + 1 := by omega
          rw [eqi] at hle
          have Hle := Aside0.mk hle
          have H6 := Aside0.mk h2
          clear hcell hle eqi h2 hch hcl
          go_wp2_with fail
          refine Hle.out.mono ?_
          rintro e w8 ⟨rfl, hb8⟩
          clear hml
          have H9 := Aside0.mk ((H50.out).below hb8)
          have H10 := Aside0.mk (pw_own_below (H40.out) hb8)
          cases hL : lessL ln (2 * i + 1) i with
          | false =>
            have h6 := H6.out
            rw [hL, if_neg (by simp)] at h6
            have hf1 : (downL n l i0 n).1 = ln := by rw [← h6]
            have hf2 : (downL n l i0 n).2 = i := by rw [← h6]
            have F1 := Aside0.mk hf1
            have F2 := Aside0.mk hf2
            clear hf1 hf2 h6 hL
            go_wp2_with fail
            go_ret
            exact ⟨by rw [F2.out]; simp, by rw [F1.out]; exact H10.out, H9.out⟩
          | true =>
            have h6 := H6.out
            rw [hL, if_pos rfl] at h6
            have Hn := Aside0.mk h6
            clear h6 hL
            have hcell := H9.out.cell Hc.out Hab.out
            have hms := m_swap a w8 _ _ _ hcell
            have hsw := Swap_calls b N cap i (2 * i + 1) ln w8 (by omega) (by omega) (by omega) H10.out
            have eqi : ((2 * i + 1 : Nat) : Int) = 2 * (i : Int) + 1 := by omega
            rw [eqi] at hsw
            have Hsw := Aside0.mk hsw
            clear hcell hsw eqi
            go_wp2_with fail
            refine Hsw.out.mono ?_
            rintro e w9 ⟨rfl, ho2, hc2⟩
            clear hms
            go_wp2_with fail
            go_roundg gk
            case measure => omega
            case rel => exact ⟨2 * i + 1, swp ln i (2 * i + 1), by congr 1, ⟨by have := H1.out; omega, hcb⟩, Hn, ⟨swp_ok H3.out _ _⟩, ⟨ho2⟩, ⟨H9.out.trans hc2 (fun x hx => .inl hx)⟩⟩
      · have hch : childL ln i n = 2 * i + 1 := by rw [hce, if_neg (by simp [h3])]
        clear hce
        have hcl := H8.out
        rw [hch] at h2
        have hcb : 2 * i + 1 < n := by omega
        have hcell := (H5.out).cell Hc.out Hab.out
        have hml := m_less a wr _ _ _ hcell
        have hle := Less_calls b N cap (2 * i + 1) i ln wr (by omega) (by omega) H3.out H4.out
        have eqi : ((2 * i + 1 : Nat) : Int) = 2 * (i : Int) + 1 := by omega
        rw [eqi] at hle
        have Hle := Aside0.mk hle
        have H6 := Aside0.mk h2
        clear hcell hle eqi h2 hch hcl
        go_wp2_with fail
        refine Hle.out.mono ?_
        rintro e w8 ⟨rfl, hb8⟩
        clear hml
        have H9 := Aside0.mk ((H5.out).below hb8)
        have H10 := Aside0.mk (pw_own_below (H4.out) hb8)
        cases hL : lessL ln (2 * i + 1) i with
        | false =>
          have h6 := H6.out
          rw [hL, if_neg (by simp)] at h6
          have hf1 : (downL n l i0 n).1 = ln := by rw [← h6]
          have hf2 : (downL n l i0 n).2 = i := by rw [← h6]
          have F1 := Aside0.mk hf1
          have F2 := Aside0.mk hf2
          clear hf1 hf2 h6 hL
          go_wp2_with fail
          go_ret
          exact ⟨by rw [F2.out]; simp, by rw [F1.out]; exact H10.out, H9.out⟩
        | true =>
          have h6 := H6.out
          rw [hL, if_pos rfl] at h6
          have Hn := Aside0.mk h6
          clear h6 hL
          have hcell := H9.out.cell Hc.out Hab.out
          have hms := m_swap a w8 _ _ _ hcell
          have hsw := Swap_calls b N cap i (2 * i + 1) ln w8 (by omega) (by omega) (by omega) H10.out
          have eqi : ((2 * i + 1 : Nat) : Int) = 2 * (i : Int) + 1 := by omega
          rw [eqi] at hsw
          have Hsw := Aside0.mk hsw
          clear hcell hsw eqi
          go_wp2_with fail
          refine Hsw.out.mono ?_
          rintro e w9 ⟨rfl, ho2, hc2⟩
          clear hms
          go_wp2_with fail
          go_roundg gk
          case measure => omega
          case rel => exact ⟨2 * i + 1, swp ln i (2 * i + 1), by congr 1, ⟨by have := H1.out; omega, hcb⟩, Hn, ⟨swp_ok H3.out _ _⟩, ⟨ho2⟩, ⟨H9.out.trans hc2 (fun x hx => .inl hx)⟩⟩
end Go.Proofs.Ythlmgamdnclmhaa.A

namespace Go.Proofs.Ythlmgamdnclmhaa.A
open Go.RowKit Go.Proofs.YthlmgamdnclmhaaW.PrintWords Go.Proofs.YthlmgamdnclmhaaW.PrintLast Go.Proofs.YthlmgamdnclmhaaW.PrintMore Go.Proofs.Ythlmgamdnclmhaa.R
set_option linter.unusedVariables false
set_option linter.unusedSimpArgs false

set_option maxHeartbeats 4000000 in
set_option maxRecDepth 100000 in
theorem lpop_calls (g o b N cap : Nat) (l : List O) (x : O) (w : World) (hN : N + 1 ≤ 1099511627776) (hx : l[N]? = some x) (hc : w.cell? ⟨g, o, none⟩ = some (.slice (some ⟨b, 0, none⟩) (N + 1) cap)) (hfz : w.frozen? ⟨g, o, none⟩ = false) (hab : g ≠ b)
    (ho : w.ownsRow 0 56 3 (.slice (some ⟨b, 0, none⟩) (N + 1) cap) (N + 1) (flat l)) :
    Calls Try.prog 87 #[.pointer (some ⟨g, o, none⟩)] w fun e w' => e = .returned (.iface 56 (.agg #[.int .u64 x.f0, .int .u64 x.f1, .int .i64 x.f2])) ∧ w'.ownsRow 0 56 3 (.slice (some ⟨b, 0, none⟩) N cap) N (flat l.dropLast) ∧ w'.heap[g]? = (w.setCell ⟨g, o, none⟩ (.slice (some ⟨b, 0, none⟩) N cap)).heap[g]? ∧ Chg (fun k => k = g) w w' := by
  obtain ⟨cur, hb, hl, hnc, hcm, hs, ht⟩ := own_open ho
  obtain ⟨cx0, cx1, cx2⟩ := cur_get ht hl hx
  have hx0 := (blk_cell hb (N * 3)).trans cx0
  have hx1 := (blk_cell hb (N * 3 + 1)).trans cx1
  have hx2 := (blk_cell hb (N * 3 + 2)).trans cx2
  have hcap : cap ≤ 9223372036854775807 := by unfold maxLen at hcm; omega
  have hca : ∀ p, (w.alloc p).cell? ⟨g, o, none⟩ = some (.slice (some ⟨b, 0, none⟩) (N + 1) cap) := fun p => pw_cell_below (below_alloc (Below.refl _ _) p) hc
  have hfa : ∀ p, (w.alloc p).frozen? ⟨g, o, none⟩ = false := fun p => ((Chg.of_below (below_alloc (Below.refl _ _) p) (fun _ => False)).frozen (World.block_lt_of_cell? w _ hc) id).trans hfz
  have hg : g < w.heap.size := World.block_lt_of_cell? w _ hc
  clear ho hx cx0 cx1 cx2
  have hfin : ((w.setCell ⟨g, o, none⟩ (.slice (some ⟨b, 0, none⟩) N cap)).alloc (.cells #[.int .u64 x.f0, .int .u64 x.f1, .int .i64 x.f2] 56)).ownsRow 0 56 3 (.slice (some ⟨b, 0, none⟩) N cap) N (flat l.dropLast) ∧
      ((w.setCell ⟨g, o, none⟩ (.slice (some ⟨b, 0, none⟩) N cap)).alloc (.cells #[.int .u64 x.f0, .int .u64 x.f1, .int .i64 x.f2] 56)).heap[g]? = (w.setCell ⟨g, o, none⟩ (.slice (some ⟨b, 0, none⟩) N cap)).heap[g]? ∧
      Chg (fun k => k = g) w ((w.setCell ⟨g, o, none⟩ (.slice (some ⟨b, 0, none⟩) N cap)).alloc (.cells #[.int .u64 x.f0, .int .u64 x.f1, .int .i64 x.f2] 56)) := by
    have hb2 := blk_alloc (blk_far hb (p := ⟨g, o, none⟩) (Ne.symm hab) (.slice (some ⟨b, 0, none⟩) N cap)) (.cells #[.int .u64 x.f0, .int .u64 x.f1, .int .i64 x.f2] 56)
    refine ⟨own_shut hb2 (by simp [hl]) (by omega) hcm hs ?_, ?_, Chg.alloc (Chg.setb (Chg.refl _ _) _ _) _⟩
    · have e1 : l.dropLast = l.take N := by rw [List.dropLast_eq_take, hl]; rfl
      have e2 : flat l = flat (l.take N) ++ flat (l.drop N) := by rw [← flat_append, List.take_append_drop]
      have e3 : (flat (l.take N)).length = N * 3 := by rw [flat_len, List.length_take, hl]; omega
      rw [e1, show cur.toList.take (N * 3) = (cur.toList.take ((N + 1) * 3)).take (N * 3) by rw [List.take_take, Nat.min_eq_left (by omega)], ht, e2, ← e3, List.take_left]
    · exact Below.heap_alloc _ _ _ (by simpa [World.setCell] using hg)
  have Fin := Aside0.mk hfin
  clear hfin hb hl hs ht
  go_enter Try.func87, Try.ntmps87
  go_wp2
  go_ret
  exact ⟨rfl, Fin.out⟩

theorem info56 : (Try.prog.info? 56).map (fun i => (i.zero, i.size, i.bytes)) = some (some (.agg #[.int .u64 0, .int .u64 0, .int .i64 0]), 3, 24) := by kernel_rfl

theorem assert_offer (x : O) (w : World) : (Instr.typeAssert (.iface 56 (.agg #[.int .u64 x.f0, .int .u64 x.f1, .int .i64 x.f2])) 20 56 true).run Try.prog w = .ok (.tuple #[.agg #[.int .u64 x.f0, .int .u64 x.f1, .int .i64 x.f2], .bool true]) w := by kernel_rfl

theorem Chg.of_grown {w w' : World} {r : Option Nat} (h : w.grownBy w' r) : Chg (fun k => some k = r) w w' := ⟨h.os, h.tape, h.output, h.size, fun k hk hn => h.block k hk hn⟩
theorem Chg.own {S : Nat → Prop} {w w' : World} (h : Chg S w w') {v : Value} {base size n : Nat} {e : TypeId} {xs : List Value} (ho : w.ownsRow base e size v n xs) (hn : ∀ b, v.ownBlock = some b → ¬ S b) : w'.ownsRow base e size v n xs := by
  obtain ⟨h1, h2⟩ := ho
  refine ⟨h1, ?_⟩
  rcases h2 with h2 | ⟨g, cap, cur, rfl, hg, hb, r⟩
  · exact .inl h2
  · exact .inr ⟨g, cap, cur, rfl, hg, h.blk hb (hn g rfl), r⟩
theorem setCell_at {w w' : World} {g : Nat} (h : w'.heap[g]? = w.heap[g]?) (o : Nat) (v : Value) : (w'.setCell ⟨g, o, none⟩ v).heap[g]? = (w.setCell ⟨g, o, none⟩ v).heap[g]? := by
  simp only [World.setCell, Array.getElem?_modify, if_pos, h]

set_option maxHeartbeats 4000000 in
set_option maxRecDepth 100000 in
theorem lpush_calls (g o : Nat) (v : Value) (l : List O) (x : O) (w : World) (hN : l.length + 1 ≤ 1099511627776) (hc : w.cell? ⟨g, o, none⟩ = some v) (hfz : w.frozen? ⟨g, o, none⟩ = false) (hab : some g ≠ v.ownBlock)
    (ho : w.ownsRow 0 56 3 v l.length (flat l)) :
    Calls Try.prog 88 #[.pointer (some ⟨g, o, none⟩), .iface 56 (.agg #[.int .u64 x.f0, .int .u64 x.f1, .int .i64 x.f2])] w fun e w' => e = .returned (.tuple #[]) ∧ ∃ v', w'.ownsRow 0 56 3 v' (l.length + 1) (flat (l ++ [x])) ∧ (v'.ownBlock = v.ownBlock ∨ ∃ b, v'.ownBlock = some b ∧ w.heap.size ≤ b) ∧ w'.heap[g]? = (w.setCell ⟨g, o, none⟩ v').heap[g]? ∧ Chg (fun k => k = g ∨ some k = v.ownBlock) w w' := by
  obtain ⟨ao, cap, rfl⟩ := own_slice ho
  have hca : ∀ p, (w.alloc p).cell? ⟨g, o, none⟩ = some (.slice ao l.length cap) := fun p => pw_cell_below (below_alloc (Below.refl _ _) p) hc
  have hfa : ∀ p, (w.alloc p).frozen? ⟨g, o, none⟩ = false := fun p => ((Chg.of_below (below_alloc (Below.refl _ _) p) (fun _ => False)).frozen (World.block_lt_of_cell? w _ hc) id).trans hfz
  have hg : g < w.heap.size := World.block_lt_of_cell? w _ hc
  have Ho := Aside0.mk ho
  have Hab := Aside0.mk hab
  have Hca := Aside0.mk hca
  have Hfa := Aside0.mk hfa
  have hta := assert_offer x
  have HO := Aside0.mk (ho.alloc (.cells #[.int .u64 x.f0, .int .u64 x.f1, .int .i64 x.f2] 56))
  have hinf := info56
  clear ho hab
  go_enter Try.func88, Try.ntmps88
  go_wp2
  have HI := Aside0.mk hinf
  clear hinf
  go_region_law (refine step_append_cells (w0 := w) (W := (w.alloc (.cells #[.int .u64 x.f0, .int .u64 x.f1, .int .i64 x.f2] 56)).drew) 0 (by rfl) (.tmp 15) (.tmp 17) 52 56 (.agg #[.int .u64 0, .int .u64 0, .int .i64 0]) 3 24 rfl Try.underlying52 HI.out rfl (by decide) (by decide) (.slice ao l.length cap) l.length (flat l) (enc56 x) rfl (by simp [Act.eval]) rfl (by intro u hu; simp only [enc56, List.mem_cons, List.not_mem_nil, or_false] at hu; rcases hu with rfl | rfl | rfl <;> rfl) HO.out ⟨rfl, rfl, rfl, by simp, fun k hk => absurd hk (Nat.not_lt_zero _)⟩ (Nat.zero_le _) (by omega) ?_; intro v1 w1 hown hb hgr hat; obtain ⟨A, c, rfl⟩ := own_slice hown; have HCW := Aside0.mk ((Chg.drew (Chg.alloc (Chg.refl _ w) _)).trans (Chg.of_grown hgr) (fun _ h => .inl h)); have hc1 := HCW.out.cell hc Hab.out; have hf1 := (HCW.out.frozen hg Hab.out).trans hfz; have H1 := Aside0.mk hown; have H2 := Aside0.mk hat; have hg1 := Nat.lt_of_lt_of_le hg HCW.out.size; clear hown hb hgr hat)
  all_goals go_end0
  all_goals
    have hsz : w.heap.size ≤ (w.alloc (.cells #[.int .u64 x.f0, .int .u64 x.f1, .int .i64 x.f2] 56)).drew.heap.size := (Chg.drew (Chg.alloc (Chg.refl (fun _ => False) w) _)).size
    have hne : some g ≠ (Value.slice A (l.length + 1) c).ownBlock := by
      rcases H2.out with h | ⟨b, h, hb⟩
      · rw [h]; exact Hab.out
      · rw [h]; intro e; injection e with e; omega
    refine ⟨rfl, .slice A (l.length + 1) c, by rw [flat_append]; exact own_setCell H1.out hne _, ?_, setCell_at (HCW.out.block g hg Hab.out) _ _, ?_⟩
    · rcases H2.out with h | ⟨b, h, hb⟩
      · exact .inl h
      · exact .inr ⟨b, h, Nat.le_trans hsz hb⟩
    · exact Chg.set (HCW.out.mono (fun _ h => .inr h)) _ _ (.inl (.inl rfl))
end Go.Proofs.Ythlmgamdnclmhaa.A

namespace Go.Proofs.Ythlmgamdnclmhaa.A
open Go.RowKit Go.Proofs.YthlmgamdnclmhaaW.PrintWords Go.Proofs.YthlmgamdnclmhaaW.PrintLast Go.Proofs.YthlmgamdnclmhaaW.PrintMore Go.Proofs.Ythlmgamdnclmhaa.R
set_option linter.unusedVariables false
set_option linter.unusedSimpArgs false

theorem Len_calls (b n cap : Nat) (l : List O) (w : World)
    (ho : w.ownsRow 0 56 3 (.slice (some ⟨b, 0, none⟩) n cap) n (flat l)) :
    Calls Try.prog 83 #[.slice (some ⟨b, 0, none⟩) n cap] w fun e w' => e = .returned (.int .i64 n) ∧ Below w.heap.size w w' := by
  obtain ⟨hC, hl, hnc⟩ := own_C ho
  have := prio_least_Len.calls (some ⟨b, 0, none⟩) cap l (l.length : Int) w hC (by omega) rfl
  rw [hl] at this
  exact this.mono fun e w' ⟨he, hd⟩ => ⟨he, hd.below⟩
theorem own_some {w : World} {v : Value} {n : Nat} {l : List O} (h : w.ownsRow 0 56 3 v (n + 1) (flat l)) : ∃ b cap, v = .slice (some ⟨b, 0, none⟩) (n + 1) cap ∧ b < w.heap.size := by
  obtain ⟨_, h2⟩ := h
  rcases h2 with ⟨_, h2⟩ | ⟨g, c, cur, h2, hg, hb, _⟩
  · omega
  · exact ⟨g, c, h2, blk_lt hb⟩
theorem cell_of_block {w w' : World} {g : Nat} (h : w'.heap[g]? = w.heap[g]?) (o : Nat) : w'.cell? ⟨g, o, none⟩ = w.cell? ⟨g, o, none⟩ := by simp [World.cell?, h]
theorem frozen_of_block {w w' : World} {g : Nat} (h : w'.heap[g]? = w.heap[g]?) (o : Nat) : w'.frozen? ⟨g, o, none⟩ = w.frozen? ⟨g, o, none⟩ := by simp [World.frozen?, h]

set_option maxHeartbeats 4000000 in
set_option maxRecDepth 100000 in
theorem hpush_calls (g o : Nat) (v : Value) (l : List O) (x : O) (w : World) (hN : l.length + 1 ≤ 1099511627776) (hok : AllOk l) (hx : Ok x) (hc : w.cell? ⟨g, o, none⟩ = some v) (hfz : w.frozen? ⟨g, o, none⟩ = false) (hab : some g ≠ v.ownBlock)
    (ho : w.ownsRow 0 56 3 v l.length (flat l)) :
    Calls Try.prog 20 #[.iface 58 (.pointer (some ⟨g, o, none⟩)), .iface 56 (.agg #[.int .u64 x.f0, .int .u64 x.f1, .int .i64 x.f2])] w fun e w' => e = .returned (.tuple #[]) ∧ ∃ v', w'.ownsRow 0 56 3 v' (l.length + 1) (flat (pushL l x)) ∧ (v'.ownBlock = v.ownBlock ∨ ∃ b, v'.ownBlock = some b ∧ w.heap.size ≤ b) ∧ w'.heap[g]? = (w.setCell ⟨g, o, none⟩ v').heap[g]? ∧ Chg (fun k => k = g ∨ some k = v.ownBlock) w w' := by
  have hlp := lpush_calls g o v l x w hN hc hfz hab ho
  have hg : g < w.heap.size := World.block_lt_of_cell? w _ hc
  have hmp := m_push ⟨g, o, none⟩ w
  have Hlp := Aside0.mk hlp
  have Hab := Aside0.mk hab
  have Hc := Aside0.mk hc
  have Hfz := Aside0.mk hfz
  have Hok := Aside0.mk hok
  have Hx := Aside0.mk hx
  have Hg := Aside0.mk hg
  clear hlp hab hc hfz ho hok hx hg
  go_enter Try.func20, Try.ntmps20
  go_wp2_with fail
  refine Hlp.out.mono ?_
  rintro e w1 ⟨rfl, v1, ho1, hb1, hg1, hc1⟩
  clear hmp
  obtain ⟨b, cap, rfl, hbl⟩ := own_some ho1
  have hne : g ≠ b := by
    rcases hb1 with h | ⟨b', h, hb'⟩
    · intro e; subst e; exact Hab.out h
    · injection h with h; change b = b' at h; have := Hg.out; omega
  have hcell : w1.cell? ⟨g, o, none⟩ = some (.slice (some ⟨b, 0, none⟩) (l.length + 1) cap) := by
    rw [cell_of_block hg1]
    exact World.cell?_setCell_same (h := Hc.out) ..
  have hml := m_len ⟨g, o, none⟩ w1 _ _ _ hcell
  have Hle := Aside0.mk (Len_calls b (l.length + 1) cap (l ++ [x]) w1 ho1)
  have Hcell := Aside0.mk hcell
  have Ho1 := Aside0.mk ho1
  have Hb1 := Aside0.mk hb1
  have Hg1 := Aside0.mk hg1
  have Hc1 := Aside0.mk hc1
  clear hcell ho1 hb1 hg1 hc1
  go_wp2_with fail
  refine Hle.out.mono ?_
  rintro e w2 ⟨rfl, hb2⟩
  clear hml
  have hup := up_calls ⟨g, o, none⟩ b (l.length + 1) cap l.length (l ++ [x]) w2 (by omega) (fun o ho => by
    rcases List.mem_append.1 ho with h1 | h1
    · exact Hok.out o h1
    · rw [List.mem_singleton.1 h1]; exact Hx.out) (pw_cell_below hb2 Hcell.out) hne (pw_own_below Ho1.out hb2)
  have Hup := Aside0.mk hup
  clear hup
  go_wp2_with fail
  refine Hup.out.mono ?_
  rintro e w3 ⟨rfl, ho3, hc3⟩
  have hfin : w3.heap[g]? = (w.setCell ⟨g, o, none⟩ (.slice (some ⟨b, 0, none⟩) (l.length + 1) cap)).heap[g]? ∧ Chg (fun k => k = g ∨ some k = v.ownBlock) w w3 := by
    have hg1 := Nat.lt_of_lt_of_le Hg.out Hc1.out.size
    refine ⟨((hc3.block g (Nat.lt_of_lt_of_le hg1 hb2.size) hne).trans (hb2.block g hg1)).trans Hg1.out, (Hc1.out.below hb2).trans hc3 (fun k hk => ?_)⟩
    subst hk
    rcases Hb1.out with h | ⟨b', h, hb'⟩
    · exact .inl (.inr h)
    · injection h with h; change k = b' at h; subst h; exact .inr hb'
  have Fin := Aside0.mk hfin
  have Ho3 := Aside0.mk ho3
  clear hfin ho3 hc3
  go_wp2_with fail
  go_end0
  exact ⟨rfl, _, Ho3.out, Hb1.out, Fin.out.1, Fin.out.2⟩

set_option maxHeartbeats 4000000 in
set_option maxRecDepth 100000 in
theorem hpop_calls (g o b N cap : Nat) (l : List O) (x : O) (w : World) (hN : N + 1 ≤ 1099511627776) (h1 : 1 ≤ N) (hok : AllOk l) (hx : (popR l)[N]? = some x) (hc : w.cell? ⟨g, o, none⟩ = some (.slice (some ⟨b, 0, none⟩) (N + 1) cap)) (hfz : w.frozen? ⟨g, o, none⟩ = false) (hab : g ≠ b)
    (ho : w.ownsRow 0 56 3 (.slice (some ⟨b, 0, none⟩) (N + 1) cap) (N + 1) (flat l)) :
    Calls Try.prog 21 #[.iface 58 (.pointer (some ⟨g, o, none⟩))] w fun e w' => e = .returned (.iface 56 (.agg #[.int .u64 x.f0, .int .u64 x.f1, .int .i64 x.f2])) ∧ w'.ownsRow 0 56 3 (.slice (some ⟨b, 0, none⟩) N cap) N (flat (popR l).dropLast) ∧ w'.heap[g]? = (w.setCell ⟨g, o, none⟩ (.slice (some ⟨b, 0, none⟩) N cap)).heap[g]? ∧ Chg (fun k => k = g ∨ k = b) w w' := by
  have hl : l.length = N + 1 := by obtain ⟨cur, _, hl, _⟩ := own_open ho; exact hl
  have hpr : popR l = (downL N (swp l 0 N) 0 N).1 := by unfold popR; rw [hl]; rfl
  rw [hpr] at hx ⊢
  have hg : g < w.heap.size := World.block_lt_of_cell? w _ hc
  have hml := m_len ⟨g, o, none⟩ w _ _ _ hc
  have Hle := Aside0.mk (Len_calls b (N + 1) cap l w ho)
  have Ho := Aside0.mk ho
  have Hc := Aside0.mk hc
  have Hfz := Aside0.mk hfz
  have Hok := Aside0.mk hok
  have Hx := Aside0.mk hx
  have Hg := Aside0.mk hg
  have Hab := Aside0.mk hab
  clear ho hc hfz hok hx hg hab hpr hl
  go_enter Try.func21, Try.ntmps21
  go_wp2_with fail
  refine Hle.out.mono ?_
  rintro e w1 ⟨rfl, hb1⟩
  clear hml
  have hcell := pw_cell_below hb1 Hc.out
  have hms := m_swap ⟨g, o, none⟩ w1 _ _ _ hcell
  have Hsw := Aside0.mk (Swap_calls b (N + 1) cap 0 N l w1 (by omega) (by omega) (by omega) (pw_own_below Ho.out hb1))
  have C1 := Aside0.mk (Chg.of_below hb1 (fun k => k = b))
  have Hcell := Aside0.mk hcell
  clear hcell
  go_wp2_with fail
  refine Hsw.out.mono ?_
  rintro e w2 ⟨rfl, ho2, hc2⟩
  clear hms
  have hcell := hc2.cell Hcell.out Hab.out
  have Hdn := Aside0.mk (down_calls ⟨g, o, none⟩ b (N + 1) cap 0 N (swp l 0 N) w2 (by omega) (by omega) (by omega) (swp_ok Hok.out _ _) hcell Hab.out ho2)
  have C2 := Aside0.mk (C1.out.trans hc2 (fun _ h => .inl h))
  clear hcell ho2 hc2
  go_wp2_with fail
  refine Hdn.out.mono ?_
  rintro e w3 ⟨rfl, ho3, hc3⟩
  have C3 := Aside0.mk (C2.out.trans hc3 (fun _ h => .inl h))
  have Hlp := Aside0.mk (lpop_calls g o b N cap _ x w3 hN Hx.out (C3.out.cell Hc.out Hab.out) ((C3.out.frozen Hg.out Hab.out).trans Hfz.out) Hab.out ho3)
  have hmp := m_pop ⟨g, o, none⟩ w3
  clear ho3 hc3
  go_wp2_with fail
  refine Hlp.out.mono ?_
  rintro e w4 ⟨rfl, ho4, hg4, hc4⟩
  clear hmp
  have hfin : w4.heap[g]? = (w.setCell ⟨g, o, none⟩ (.slice (some ⟨b, 0, none⟩) N cap)).heap[g]? ∧ Chg (fun k => k = g ∨ k = b) w w4 := by
    refine ⟨hg4.trans (setCell_at (C3.out.block g Hg.out Hab.out) _ _), (C3.out.mono (fun _ h => .inr h)).trans hc4 (fun _ h => .inl (.inl h))⟩
  have Fin := Aside0.mk hfin
  have Ho4 := Aside0.mk ho4
  clear hfin ho4 hg4 hc4
  go_wp2_with fail
  go_ret
  exact ⟨rfl, Ho4.out, Fin.out.1, Fin.out.2⟩
end Go.Proofs.Ythlmgamdnclmhaa.A
