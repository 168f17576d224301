/- PrioKeeps: contracts of the document's functions beside the sampler. -/
import Derived.Test.YthlmgamdnclmhaaR0
import Derived.Test.YthlmgamdnclmhaaF4
import Derived.Test.YthlmgamdnclmhaaRxA
import Derived.BigQuiet
namespace Go.Proofs.Ythlmgamdnclmhaa.A
open Go.RowKit Go.Proofs.YthlmgamdnclmhaaW.PrintWords Go.Proofs.YthlmgamdnclmhaaW.PrintLast Go.Proofs.YthlmgamdnclmhaaW.PrintMore Go.Proofs.Ythlmgamdnclmhaa.R
set_option linter.unusedVariables false
set_option linter.unusedSimpArgs false

/-- The document's row of offers, of one's own. -/
def RefRow (w : World) (base : Nat) (v : Value) (L : List O) : Prop := Kd.R k93 93 w base (fun _ => True) v (ones L)
theorem RefRow.off {w w' : World} {base : Nat} {v : Value} {L : List O} (h : RefRow w base v L) (ho : Off w w') : RefRow w' base v L :=
  Kd.R_mono (Kd.R_step (Kd.R_bound h) (fun k hk _ => by
    obtain ⟨_, _, _, q, hq, cells, hb⟩ := hk
    have e : q = 93 := by
      rcases List.mem_cons.1 hq with e | e
      · exact e
      · cases e
    subst e
    rw [hb]
    exact ho.block k cells _ _ hb (by decide) (by decide))) (fun _ _ => trivial)
theorem RefRow.below {w w' : World} {base : Nat} {v : Value} {L : List O} (h : RefRow w base v L) (hb : Below w.heap.size w w') : RefRow w' base v L := Kd.R_below h hb
theorem RefRow.reads {w : World} {base : Nat} {v : Value} {L : List O} (h : RefRow w base v L) : ∃ A c, v = .slice A L.length c ∧ L.length ≤ c ∧ Kd.C k93 w A (ones L).length (ones L) := by
  obtain ⟨A, c, h1, h2, h3⟩ := Kd.R_reads h
  rw [ones_len] at h1 h2
  exact ⟨A, c, h1, h2, h3⟩
theorem ones_snoc (L : List O) (x : O) : ones (L ++ [x]) = ones L ++ [⟨x.f0, x.f1⟩] := by unfold ones; simp
theorem refAdd (L : List O) (keep M wt draw : Int) (hL : L.length ≤ 1000) (hM : 0 ≤ M) (hw : 1 ≤ wt) (hw' : wt ≤ 4294967296) (hd : 0 ≤ draw) (p : Int) :
    telemeterref11_Add.f 1 keep M (ones L) wt draw = some (keep, M, ones (L ++ [⟨wt, drawL M draw, p⟩]), (L.length : Int), 0) := by
  unfold telemeterref11_Add.f
  rw [if_neg (by omega), telemeterref11_Add.j0, decide_eq_false (by omega), if_neg (by simp), ones_snoc]
  simp only [ones_len, List.length_nil, List.nil_append, Option.bind_some]
  have e1 : drawL M draw = if M > 0 then Int.tmod draw M else draw := by
    unfold drawL
    rw [Int.tmod_eq_emod_of_nonneg hd]
  rw [e1]
  by_cases hm : M > 0
  · rw [if_pos hm, if_neg (by omega), if_pos hm, if_pos (show 0 + L.length < 8796093022208 by omega), if_pos (show L.length < 8796093022208 by omega)]
  · rw [if_neg hm, if_neg hm, if_pos (show 0 + L.length < 8796093022208 by omega), if_pos (show L.length < 8796093022208 by omega)]
theorem refAdd_calls (w0 w : World) (L : List O) (v : Value) (keep M wt draw : Int) (hb : Below w0.heap.size w0 w) (h : RefRow w w0.heap.size v L) (hL : L.length ≤ 1000) (hM : 0 ≤ M) (hw : 1 ≤ wt) (hw' : wt ≤ 4294967296) (hd : 0 ≤ draw) (p : Int) :
    Calls Try.prog 26 #[.agg #[.int .i64 keep, .int .u64 M, v], .int .u64 wt, .int .u64 draw] w fun e w' => ∃ v', e = .returned (.tuple #[.agg #[.int .i64 keep, .int .u64 M, v'], .int .i64 L.length, .int .i64 0]) ∧ RefRow w' w0.heap.size v' (L ++ [⟨wt, drawL M draw, p⟩]) ∧ Below w.heap.size w w' := by
  obtain ⟨A, c, rfl, hc, hC⟩ := h.reads
  have := telemeterref11_Add.calls 1 keep M A c (ones L) wt draw _ _ _ _ _ w hC (by rw [ones_len]; exact hc) (refAdd L keep M wt draw hL hM hw hw' hd p)
  rw [ones_len] at this
  exact this.mono fun e w' ⟨v2, he, hr, hbel⟩ => ⟨v2, he, Kd.R_lower hr hb.size, hbel⟩
set_option maxHeartbeats 4000000 in
set_option maxRecDepth 100000 in
theorem refAddBad_calls (A : Option Addr) (n c : Nat) (keep M wt draw : Int) (w : World) (hw : wt = 0 ∨ 4294967296 < wt) :
    Calls Try.prog 26 #[.agg #[.int .i64 keep, .int .u64 M, .slice A n c], .int .u64 wt, .int .u64 draw] w fun e w' => e = .returned (.tuple #[.agg #[.int .i64 keep, .int .u64 M, .slice A n c], .int .i64 (-1), .int .i64 1]) ∧ Below w.heap.size w w' := by
  have hb2 := blk_new (w.alloc (.cells #[.int .i64 keep, .int .u64 M, .slice A n c] 66)) (.cells #[.int .i64 keep, .int .u64 M, .slice A n c] 66)
  rw [World.size_alloc] at hb2
  have HB2 := Aside0.mk hb2
  have HBB := Aside0.mk (below_alloc (below_alloc (Below.refl w.heap.size w) (.cells #[.int .i64 keep, .int .u64 M, .slice A n c] 66)) (.cells #[.int .i64 keep, .int .u64 M, .slice A n c] 66))
  clear hb2
  rcases hw with rfl | hw
  · go_enter Try.func26, Try.ntmps26
    go_wp2_with fail
    refine bodyPost_ret (results_ctt rfl _ _ (w.heap.size + 1) 66 #[.int .i64 keep, .int .u64 M, .slice A n c] (0, 0) _ rfl HB2.out Try.underlying66 rfl (by kernel_rfl)) rfl ?_
    exact ⟨rfl, HBB.out⟩
  · have t1 : decide (wt < 1) = false := decide_eq_false (by omega)
    have t2 : decide (4294967296 < wt) = true := decide_eq_true hw
    go_enter Try.func26, Try.ntmps26
    go_wp2_with fail
    refine bodyPost_ret (results_ctt rfl _ _ (w.heap.size + 1) 66 #[.int .i64 keep, .int .u64 M, .slice A n c] (0, 0) _ rfl HB2.out Try.underlying66 rfl (by kernel_rfl)) rfl ?_
    exact ⟨rfl, HBB.out⟩

theorem refNew_calls (w0 w : World) (keep M : Int) (hb : Below w0.heap.size w0 w) (h1 : 1 ≤ keep) (h2 : keep ≤ 1000) :
    Calls Try.prog 25 #[.int .i64 keep, .int .u64 M] w fun e w' => ∃ v', e = .returned (.tuple #[.agg #[.int .i64 keep, .int .u64 M, v'], .bool true]) ∧ RefRow w' w0.heap.size v' [] ∧ Below w.heap.size w w' :=
  (telemeterref11_New.calls keep M keep M [] true w (by unfold telemeterref11_New.f; rw [if_pos h1, decide_eq_true h2])).mono fun e w' ⟨v2, he, hr, hbel⟩ => ⟨v2, he, Kd.R_lower hr hb.size, hbel⟩

/-- A row of kept ones, as the printed texts read it. -/
def KeptRow (w : World) (base : Nat) (v : Value) (r : List K) : Prop := Kd.R k33 33 w base (fun _ => True) v r
theorem KeptRow.off {w w' : World} {base : Nat} {v : Value} {r : List K} (h : KeptRow w base v r) (ho : Off w w') : KeptRow w' base v r :=
  Kd.R_mono (Kd.R_step (Kd.R_bound h) (fun k hk _ => by
    obtain ⟨_, _, _, q, hq, cells, hb⟩ := hk
    have e : q = 33 := by
      rcases List.mem_cons.1 hq with e | e
      · exact e
      · cases e
    subst e
    rw [hb]
    exact ho.block k cells _ _ hb (by decide) (by decide))) (fun _ _ => trivial)
theorem KeptRow.reads {w : World} {base : Nat} {v : Value} {r : List K} (h : KeptRow w base v r) : ∃ A c, v = .slice A r.length c ∧ r.length ≤ c ∧ Kd.C k33 w A r.length r := Kd.R_reads h
theorem reps_flatP {w : World} {base : Nat} {ok : Nat → Prop} : ∀ r : List K, Reps (k33.M w base ok) 3 r (flatP r)
  | [] => Reps.none _ _
  | x :: t => by
    have h1 : Reps (k33.M w base ok) 3 [x] (encK x) := by
      have := Reps.snoc (Reps.none (k33.M w base ok) 3) (k33_mkM w base ok x) rfl
      rw [List.nil_append, List.nil_append] at this
      exact this
    have h2 := Kd.reps_append h1 (reps_flatP t)
    exact h2
theorem KeptRow.of_own {w : World} {base : Nat} {v : Value} {r : List K} (h : w.ownsRow base 33 3 v r.length (flatP r)) : KeptRow w base v r := ⟨fun _ _ => trivial, flatP r, h, reps_flatP r⟩
theorem refClose_calls (w0 w : World) (L : List O) (v : Value) (keep M : Int) (hb : Below w0.heap.size w0 w) (h : RefRow w w0.heap.size v L) (hok : AllOk L) (hp : Places L) (hL : L.length ≤ 1000) (hk : 1 ≤ keep) (hM : 0 ≤ M) (hM' : M < K64) :
    Calls Try.prog 27 #[.agg #[.int .i64 keep, .int .u64 M, v]] w fun e w' => ∃ v' vx, e = .returned (.tuple #[.agg #[.int .i64 keep, .int .u64 M, v'], vx]) ∧ RefRow w' w0.heap.size v' [] ∧ KeptRow w' w0.heap.size vx (closeS keep M L) ∧ Below w.heap.size w w' := by
  obtain ⟨A, c, rfl, hc, hC⟩ := h.reads
  obtain ⟨k, hk'⟩ := ref_Close L hok hp hL keep M hk hM hM'
  have := telemeterref11_Close.calls k keep M A c (ones L) _ _ _ _ w hC (by rw [ones_len]; exact hc) (hk' k (Nat.le_refl _))
  rw [ones_len] at this
  exact this.mono fun e w' ⟨v2, v3, he, hr2, hr3, hbel⟩ => ⟨v2, v3, he, Kd.R_lower hr2 hb.size, Kd.R_lower hr3 hb.size, hbel⟩
theorem refSame_calls (w0 w1 w : World) (v1 v2 : Value) (r : List K) (h1 : KeptRow w w0.heap.size v1 r) (h2 : KeptRow w w1.heap.size v2 r) (hl : r.length ≤ 1000) :
    Calls Try.prog 28 #[v1, v2] w fun e w' => e = .returned (.bool true) ∧ Below w.heap.size w w' := by
  obtain ⟨A1, c1, rfl, hc1, hC1⟩ := h1.reads
  obtain ⟨A2, c2, rfl, hc2, hC2⟩ := h2.reads
  obtain ⟨k, hk⟩ := ref_Same r hl
  exact (telemeterref11_Same.calls k A1 c1 r A2 c2 r true w hC1 hc1 hC2 hc2 (hk k (Nat.le_refl _))).mono fun e w' ⟨he, hd⟩ => ⟨he, hd.below⟩
theorem Len_quiet (w0 w : World) (g : Nat) (keep M : Int) (L : List O) (h : SR w0 w g keep M L) (n : Nat) :
    Calls Try.prog 14 #[.pointer (some ⟨g, 0, none⟩)] (w.drewN n) fun e w' => e = .returned (.int .i64 L.length) ∧ ∃ m, w' = w.drewN m := by
  obtain ⟨v, l, hs, _⟩ := h.out
  have hc := blk_cell hs.blk 3
  simp only [List.getElem?_toArray] at hc
  clear hs
  refine Calls.quiet_of_same ?_
  have hc' : (w.drewN n).cell? ⟨g, 3, none⟩ = some (.int .i64 L.length) := hc
  go_enter Try.func14, Try.ntmps14
  go_wp2
  go_ret
  exact ⟨rfl, rfl⟩
end Go.Proofs.Ythlmgamdnclmhaa.A
