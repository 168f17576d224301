/- The sampler: New, Add, Len, Close. -/
import Derived.Test.YthlmgamdnclmhaaHH
import Derived.Deep.RegionWith
import Derived.BigQuiet
import Derived.Test.YthlmgamdnclmhaaPP
import Derived.Test.YthlmgamdnclmhaaMM
import Derived.Deep.RegionHeld3
import Derived.Test.YthlmgamdnclmhaaShelf
import Derived.Shelf.SlSortCmp.NoneTotal
import Derived.Deep.DeepCutAuto
namespace Go.Proofs.Ythlmgamdnclmhaa.A
open Go.RowKit Go.Proofs.YthlmgamdnclmhaaW.PrintWords Go.Proofs.YthlmgamdnclmhaaW.PrintLast Go.Proofs.YthlmgamdnclmhaaW.PrintMore Go.Proofs.Ythlmgamdnclmhaa.R
set_option linter.unusedVariables false
set_option linter.unusedSimpArgs false

/-- A sampler at a block: what it keeps, in the heap's order. -/
structure Samp (w : World) (g : Nat) (v : Value) (keep M many : Int) (l : List O) : Prop where
  blk : w.heap[g]? = some (.cells #[v, .int .i64 keep, .int .u64 M, .int .i64 many] 54 (0, 0))
  own : w.ownsRow 0 56 3 v l.length (flat l)
theorem Samp.ne {w : World} {g : Nat} {v : Value} {keep M many : Int} {l : List O} (h : Samp w g v keep M many l) : some g ≠ v.ownBlock := by
  obtain ⟨h1, _, h2⟩ := h
  rcases h2 with ⟨h2, _⟩ | ⟨b, c, cur, h2, hg, hb, _⟩
  · rw [h2]; simp [Value.ownBlock]
  · rw [h2]; intro e; injection e with e; change g = b at e; subst e; rw [h1] at hb; injection hb with hb; injection hb with _ hb; exact absurd hb (by decide)
theorem Samp.chg {w w' : World} {g : Nat} {v : Value} {keep M many : Int} {l : List O} (h : Samp w g v keep M many l) {S : Nat → Prop} (hc : Chg S w w') (hg : ¬ S g) (hb : ∀ b, v.ownBlock = some b → ¬ S b) : Samp w' g v keep M many l := ⟨hc.blk h.blk hg, hc.own h.own hb⟩
theorem Samp.below {w w' : World} {g : Nat} {v : Value} {keep M many : Int} {l : List O} (h : Samp w g v keep M many l) (hb : Below w.heap.size w w') : Samp w' g v keep M many l := h.chg (Chg.of_below hb (fun _ => False)) id (fun _ _ h => h)

set_option maxHeartbeats 4000000 in
set_option maxRecDepth 100000 in
theorem New_nil (keep M : Int) (w : World) (hk : keep < 1 ∨ 1000 < keep) :
    Calls Try.prog 10 #[.int .i64 keep, .int .u64 M] w fun e w' => e = .returned (.pointer none) ∧ Below w.heap.size w w' := by
  go_enter Try.func10, Try.ntmps10
  go_wp2
  all_goals first | omega | skip
  all_goals go_ret
  all_goals exact ⟨rfl, Below.refl _ _⟩

set_option maxHeartbeats 4000000 in
set_option maxRecDepth 100000 in
theorem New_calls (keep M : Int) (w : World) (h1 : 1 ≤ keep) (h2 : keep ≤ 1000) :
    Calls Try.prog 10 #[.int .i64 keep, .int .u64 M] w fun e w' => e = .returned (.pointer (some ⟨w.heap.size, 0, none⟩)) ∧ Samp w' w.heap.size (.slice none 0 0) keep M 0 [] ∧ Below w.heap.size w w' := by
  have hsp : Samp (w.alloc (.cells #[.slice none 0 0, .int .i64 keep, .int .u64 M, .int .i64 0] 54)) w.heap.size (.slice none 0 0) keep M 0 [] ∧ Below w.heap.size w (w.alloc (.cells #[.slice none 0 0, .int .i64 keep, .int .u64 M, .int .i64 0] 54)) := ⟨⟨blk_new w _, rfl, .inl ⟨rfl, rfl⟩⟩, below_alloc (Below.refl _ _) _⟩
  have Hsp := Aside0.mk hsp
  clear hsp
  go_enter Try.func10, Try.ntmps10
  go_wp2
  all_goals first | omega | skip
  all_goals go_ret
  all_goals exact ⟨rfl, Hsp.out⟩

theorem SLen_calls (g : Nat) (v : Value) (keep M many : Int) (l : List O) (w : World) (hs : Samp w g v keep M many l) :
    Calls Try.prog 14 #[.pointer (some ⟨g, 0, none⟩)] w fun e w' => e = .returned (.int .i64 many) ∧ Below w.heap.size w w' := by
  have hc := blk_cell hs.blk 3
  simp only [List.getElem?_toArray] at hc
  clear hs
  go_enter Try.func14, Try.ntmps14
  go_wp2
  go_ret
  exact ⟨rfl, Below.refl _ _⟩

set_option maxHeartbeats 4000000 in
set_option maxRecDepth 100000 in
theorem Add_bad (g : Nat) (wt draw : Int) (w : World) (hw : wt = 0 ∨ 4294967296 < wt) :
    Calls Try.prog 11 #[.pointer (some ⟨g, 0, none⟩), .int .u64 wt, .int .u64 draw] w fun e w' => e = .returned (.tuple #[.int .i64 (-1), .int .u16 1]) ∧ Below w.heap.size w w' := by
  go_enter Try.func11, Try.ntmps11
  go_wp2
  all_goals first | omega | skip
  all_goals go_ret2
  all_goals exact ⟨rfl, Below.refl _ _⟩

theorem drawL_ok (M draw : Int) (h0 : 0 ≤ draw) (h1 : draw < K64) (hM : M < K64) : 0 ≤ drawL M draw ∧ drawL M draw < K64 := by
  unfold drawL
  split
  · rename_i h
    exact ⟨Int.emod_nonneg _ (by omega), Int.lt_trans (Int.emod_lt_of_pos _ h) hM⟩
  · exact ⟨h0, h1⟩

theorem Samp.drew {w : World} {g : Nat} {v : Value} {keep M many : Int} {l : List O} (h : Samp w g v keep M many l) : Samp w.drew g v keep M many l := ⟨h.blk, h.own⟩
theorem Samp.drewN {w : World} {g : Nat} {v : Value} {keep M many : Int} {l : List O} (h : Samp w g v keep M many l) (n : Nat) : Samp (w.drewN n) g v keep M many l := ⟨h.blk, h.own⟩
theorem Samp.count {w : World} {g : Nat} {v : Value} {keep M many : Int} {l : List O} (h : Samp w g v keep M many l) (m : Int) : Samp (w.setCell ⟨g, 3, none⟩ (.int .i64 m)) g v keep M m l :=
  ⟨by have := blk_set h.blk 3 (.int .i64 m); simpa using this, own_setCell h.own h.ne _⟩
theorem Samp.cells {w : World} {g : Nat} {v : Value} {keep M many : Int} {l : List O} (h : Samp w g v keep M many l) : (w.cell? ⟨g, 0, none⟩ = some v ∧ w.cell? ⟨g, 1, none⟩ = some (.int .i64 keep) ∧ w.cell? ⟨g, 2, none⟩ = some (.int .u64 M) ∧ w.cell? ⟨g, 3, none⟩ = some (.int .i64 many)) ∧ (∀ k, w.frozen? ⟨g, k, none⟩ = false) ∧ g < w.heap.size :=
  ⟨⟨blk_cell h.blk 0, blk_cell h.blk 1, blk_cell h.blk 2, blk_cell h.blk 3⟩, fun k => blk_frozen h.blk k, blk_lt h.blk⟩
theorem own_lt {w : World} {v : Value} {base size n b : Nat} {e : TypeId} {xs : List Value} (h : w.ownsRow base e size v n xs) (hb : v.ownBlock = some b) : b < w.heap.size := by
  obtain ⟨_, h2⟩ := h
  rcases h2 with ⟨rfl, _⟩ | ⟨g, c, cur, rfl, hg, hb', _⟩
  · simp [Value.ownBlock] at hb
  · injection hb with hb; change g = b at hb; subst hb; exact blk_lt hb'

theorem push_samp (g : Nat) (v : Value) (keep M many : Int) (l : List O) (x : O) (w : World) (hs : Samp w g v keep M many l) (hl : l.length + 1 ≤ 1099511627776) (hok : AllOk l) (hx : Ok x) :
    Calls Try.prog 20 #[.iface 58 (.pointer (some ⟨g, 0, none⟩)), .iface 56 (.agg #[.int .u64 x.f0, .int .u64 x.f1, .int .i64 x.f2])] w fun e w' => e = .returned (.tuple #[]) ∧ ∃ v', Samp w' g v' keep M many (pushL l x) ∧ (v'.ownBlock = v.ownBlock ∨ ∃ b, v'.ownBlock = some b ∧ w.heap.size ≤ b) ∧ Chg (fun k => k = g ∨ some k = v.ownBlock) w w' := by
  obtain ⟨⟨c0, _⟩, hf, hg⟩ := hs.cells
  refine (hpush_calls g 0 v l x w hl hok hx c0 (hf 0) hs.ne hs.own).mono fun e w' ⟨he, v', h1, h2, h3, h4⟩ => ⟨he, v', ⟨?_, by rw [pushL_len]; exact h1⟩, h2, h4⟩
  rw [h3]
  have := blk_set hs.blk 0 v'
  simpa using this
theorem pop_samp (g : Nat) (v : Value) (keep M many : Int) (l : List O) (x : O) (w : World) (hs : Samp w g v keep M many l) (hl : l.length ≤ 1099511627776) (h2 : 2 ≤ l.length) (hok : AllOk l) (hx : (popR l)[l.length - 1]? = some x) :
    Calls Try.prog 21 #[.iface 58 (.pointer (some ⟨g, 0, none⟩))] w fun e w' => e = .returned (.iface 56 (.agg #[.int .u64 x.f0, .int .u64 x.f1, .int .i64 x.f2])) ∧ ∃ v', Samp w' g v' keep M many (popR l).dropLast ∧ v'.ownBlock = v.ownBlock ∧ Chg (fun k => k = g ∨ some k = v.ownBlock) w w' := by
  obtain ⟨⟨c0, _⟩, hf, hg⟩ := hs.cells
  obtain ⟨N, hN⟩ : ∃ N, l.length = N + 1 := ⟨l.length - 1, by omega⟩
  have ho := hs.own
  rw [hN] at ho hx
  obtain ⟨b, cap, rfl, hb⟩ := own_some ho
  have hne : g ≠ b := fun e => hs.ne (by rw [e]; rfl)
  refine (hpop_calls g 0 b N cap l x w (by omega) (by omega) hok hx c0 (hf 0) hne ho).mono fun e w' ⟨he, h1, h3, h4⟩ => ⟨he, .slice (some ⟨b, 0, none⟩) N cap, ⟨?_, by rw [List.length_dropLast, popR_len, hN]; exact h1⟩, rfl, h4.mono fun k hk => hk.imp id (fun h => by rw [h]; rfl)⟩
  rw [h3]
  have := blk_set hs.blk 0 (.slice (some ⟨b, 0, none⟩) N cap)
  simpa using this

set_option maxHeartbeats 4000000 in
set_option maxRecDepth 100000 in
theorem Add_calls (g : Nat) (v : Value) (keep M many : Int) (l : List O) (wt draw : Int) (w : World) (hs : Samp w g v keep M many l)
    (hk : 1 ≤ keep) (hk' : keep ≤ 1000) (hl : l.length ≤ keep + 1) (hm : 0 ≤ many) (hm' : many < 1099511627776) (hok : AllOk l)
    (hw : 1 ≤ wt) (hw' : wt ≤ 4294967296) (hd : 0 ≤ draw) (hd' : draw < K64) (hM : 0 ≤ M) (hM' : M < K64) :
    Calls Try.prog 11 #[.pointer (some ⟨g, 0, none⟩), .int .u64 wt, .int .u64 draw] w fun e w' => e = .returned (.tuple #[.int .i64 many, .int .u16 0]) ∧ ∃ v', Samp w' g v' keep M (many + 1) (addL keep l ⟨wt, drawL M draw, many⟩) ∧ (v'.ownBlock = v.ownBlock ∨ ∃ b, v'.ownBlock = some b ∧ w.heap.size ≤ b) ∧ Chg (fun k => k = g ∨ some k = v.ownBlock) w w' := by
  obtain ⟨⟨hc0, hc1, hc2, hc3⟩, hf, hg⟩ := hs.cells
  have hwrap : IntKind.i64.wrap (many + 1) = many + 1 := by rw [IntKind.wrap_i64]; omega
  have hdk := drawL_ok M draw hd hd' hM'
  have Hne := Aside0.mk hs.ne
  have Hs := Aside0.mk hs
  have Hok := Aside0.mk hok
  have Hwk : wt < K64 := by unfold K64; omega
  have t1 : (wt == 0) = false := beq_eq_false_iff_ne.2 (by omega)
  have t2 : ¬ wt = 0 := by omega
  have t3 : decide (4294967296 < wt) = false := decide_eq_false (by omega)
  clear hs hok
  by_cases h0 : 0 < M
  · have hdd : drawL M draw = draw.tmod M := (if_pos h0).trans (Int.tmod_eq_emod_of_nonneg hd).symm
    rw [hdd] at hdk ⊢
    have hx : Ok ⟨wt, draw.tmod M, many⟩ := ⟨Int.le_trans (by decide) hw, Hwk, hdk.1, hdk.2⟩
    have H2 := Aside0.mk (Samp.drew ((Hs.out.count (many + 1)).below (below_alloc (Below.refl _ _) (.cells #[.int .u64 wt, .int .u64 (draw.tmod M), .int .i64 many] 56))))
    have Hpush := Aside0.mk (push_samp g v keep M (many + 1) l ⟨wt, draw.tmod M, many⟩ _ H2.out (by omega) Hok.out hx)
    have Hx := Aside0.mk hx
    have hbn := blk_new (w.setCell ⟨g, 3, none⟩ (.int .i64 (many + 1))) (.cells #[.int .u64 wt, .int .u64 (draw.tmod M), .int .i64 many] 56)
    have Hbn := Aside0.mk hbn
    have Hlt := Aside0.mk (fun b h => own_lt (b := b) Hs.out.own h)
    clear hd hd' hM hM' hdk hdd hx Hwk hbn
    go_enter Try.func11, Try.ntmps11
    go_wp2_with fail
    go_region_with (go_at_call 20; refine Hpush.out.mono ?_; rintro e w2 ⟨rfl, v2, hs2, hv2, hch2⟩; have HS2 := Aside0.mk hs2; have HV2 := Aside0.mk hv2; have HC2 := Aside0.mk hch2; clear hs2 hv2 hch2)
    have hbo : w2.heap[w.heap.size]? = some (.cells #[.int .u64 wt, .int .u64 (draw.tmod M), .int .i64 many] 56 (0, 0)) := by
      have h1 := HC2.out.blk (blk_drew Hbn.out) (by
        show ¬ ((w.setCell ⟨g, 3, none⟩ (.int .i64 (many + 1))).heap.size = g ∨ some (w.setCell ⟨g, 3, none⟩ (.int .i64 (many + 1))).heap.size = v.ownBlock)
        rw [World.size_setCell]
        rintro (h | h)
        · omega
        · exact absurd (Hlt.out _ h.symm) (Nat.lt_irrefl _))
      rwa [World.size_setCell] at h1
    have C2 : Chg (fun k => k = g ∨ some k = v.ownBlock) w w2 :=
      ((((Chg.refl _ w).set ⟨g, 3, none⟩ (.int .i64 (many + 1)) (.inl (.inl rfl))).alloc (.cells #[.int .u64 wt, .int .u64 (draw.tmod M), .int .i64 many] 56)).drew).trans HC2.out (fun _ h => .inl h)
    have HV5 : v2.ownBlock = v.ownBlock ∨ ∃ b, v2.ownBlock = some b ∧ w.heap.size + 1 ≤ b := by
      rcases HV2.out with h | ⟨b, h, hb⟩
      · exact .inl h
      · refine .inr ⟨b, h, Nat.le_trans (Nat.le_of_eq ?_) hb⟩
        show w.heap.size + 1 = ((w.setCell ⟨g, 3, none⟩ (.int .i64 (many + 1))).alloc _).heap.size
        simp
    have HV3 : v2.ownBlock = v.ownBlock ∨ ∃ b, v2.ownBlock = some b ∧ w.heap.size ≤ b := by
      rcases HV2.out with h | ⟨b, h, hb⟩
      · exact .inl h
      · exact .inr ⟨b, h, Nat.le_trans ((((Chg.refl (fun k => k = g) w).set ⟨g, 3, none⟩ (.int .i64 (many + 1)) (.inl rfl)).alloc (.cells #[.int .u64 wt, .int .u64 (draw.tmod M), .int .i64 many] 56)).drew).size hb⟩
    have hok3 : AllOk (pushL l ⟨wt, draw.tmod M, many⟩) := pushL_ok Hok.out Hx.out
    obtain ⟨pl, hpl⟩ : ∃ pl, pl = pushL l ⟨wt, draw.tmod M, many⟩ := ⟨_, rfl⟩
    have hadd : addL keep l ⟨wt, draw.tmod M, many⟩ = if keep + 1 < pl.length then (popR pl).dropLast else pl := by rw [hpl]; rfl
    have hn2 : pl.length = l.length + 1 := by rw [hpl]; exact pushL_len l ⟨wt, draw.tmod M, many⟩
    rw [← hpl] at hok3
    have HS3 := Aside0.mk (show Samp w2 g v2 keep M (many + 1) pl by rw [hpl]; exact HS2.out)
    clear hpl
    have HOK3 := Aside0.mk hok3
    have HADD := Aside0.mk hadd
    have HC3 := Aside0.mk C2
    have HVV := Aside0.mk HV3
    have HV6 := Aside0.mk HV5
    have HN2 := Aside0.mk hn2
    obtain ⟨⟨d0, d1, d2, d3⟩, df, dg⟩ := HS3.out.cells
    have ho2 := HS3.out.own
    rw [hn2] at ho2
    obtain ⟨b, cap, hvv, hbl⟩ := own_some ho2
    rw [hvv] at d0
    have e2 : w2.cell? ⟨w.heap.size, 2, none⟩ = some (.int .i64 many) := blk_cell hbo 2
    have hlo := blk_lt hbo
    have hwk : IntKind.i64.wrap (keep + 1) = keep + 1 := by rw [IntKind.wrap_i64]; omega
    have ho3 : 0 ≤ (l.length : Int) := Int.natCast_nonneg _
    clear hc0 hc1 hc2 hc3 hf hg HS2 HV2 HC2 hadd C2 HV3 HV5 hok3 hn2 ho2 hbo Hpush H2 Hbn Hlt
    by_cases hp : keep + 1 < (l.length : Int) + 1
    · have hlp : addL keep l ⟨wt, draw.tmod M, many⟩ = (popR pl).dropLast := by rw [HADD.out, if_pos (by rw [HN2.out]; omega)]
      have hxx : ∃ x, (popR pl)[pl.length - 1]? = some x := ⟨_, List.getElem?_eq_getElem (by rw [popR_len, HN2.out]; omega)⟩
      obtain ⟨xx, hxx⟩ := hxx
      have Hpop := Aside0.mk (fun n => pop_samp g v2 keep M (many + 1) pl xx (w2.drewN n) (HS3.out.drewN n) (by rw [HN2.out]; omega) (by rw [HN2.out]; omega) HOK3.out hxx)
      have HLP := Aside0.mk hlp
      clear hlp hxx
      have hdec : decide (keep + 1 < (l.length : Int) + 1) = true := decide_eq_true hp
      go_wp2_with fail
      go_quiet (fail)
      go_wp2_with fail
      refine (Hpop.out nq).mono ?_
      rintro e w3 ⟨rfl, v3, hs3, hv3, hc3⟩
      have hlt3 : ∀ b, v2.ownBlock = some b → b < w2.heap.size := fun b h => own_lt HS3.out.own h
      have hne3 : ¬ (w.heap.size = g ∨ some w.heap.size = v2.ownBlock) := by
        rintro (h | h)
        · have := (Hs.out.cells).2.2; omega
        · rcases HV6.out with h' | ⟨b', h', hb'⟩
          · rw [h'] at h; exact absurd (own_lt Hs.out.own h.symm) (Nat.lt_irrefl _)
          · rw [h'] at h; injection h with h; omega
      have e3 : w3.cell? ⟨w.heap.size, 2, none⟩ = some (.int .i64 many) := by
        exact (cell_of_block (hc3.block w.heap.size hlo hne3) 2).trans e2
      have hlo3 : w.heap.size < w3.heap.size := Nat.lt_of_lt_of_le hlo hc3.size
      have HS4 := Aside0.mk hs3
      have HV4 := Aside0.mk hv3
      have HC4 := Aside0.mk hc3
      clear hs3 hv3 hc3 hlt3 hne3
      go_wp2_with fail
      go_ret2
      refine ⟨rfl, v3, by rw [HLP.out]; exact HS4.out, by rw [HV4.out]; exact HVV.out, (HC3.out.drewN nq).trans HC4.out (fun k hk => ?_)⟩
      rcases hk with hk | hk
      · exact .inl (.inl hk)
      · rcases HVV.out with h' | ⟨b', h', hb'⟩
        · rw [h'] at hk; exact .inl (.inr hk)
        · rw [h'] at hk; injection hk with hk; subst hk; exact .inr hb'
    · have hlp : addL keep l ⟨wt, draw.tmod M, many⟩ = pl := by rw [HADD.out, if_neg (by rw [HN2.out]; omega)]
      have HLP := Aside0.mk hlp
      clear hlp
      have hdec : decide (keep + 1 < (l.length : Int) + 1) = false := decide_eq_false hp
      go_wp2_with fail
      go_quiet (fail)
      go_wp2_with fail
      go_ret2
      exact ⟨rfl, v2, by rw [HLP.out]; exact HS3.out.drewN nq, HVV.out, HC3.out.drewN nq⟩
  · have hdd : drawL M draw = draw := if_neg h0
    rw [hdd] at hdk ⊢
    have hx : Ok ⟨wt, draw, many⟩ := ⟨Int.le_trans (by decide) hw, Hwk, hdk.1, hdk.2⟩
    have H2 := Aside0.mk (Samp.drew ((Hs.out.count (many + 1)).below (below_alloc (Below.refl _ _) (.cells #[.int .u64 wt, .int .u64 (draw), .int .i64 many] 56))))
    have Hpush := Aside0.mk (push_samp g v keep M (many + 1) l ⟨wt, draw, many⟩ _ H2.out (by omega) Hok.out hx)
    have Hx := Aside0.mk hx
    have hbn := blk_new (w.setCell ⟨g, 3, none⟩ (.int .i64 (many + 1))) (.cells #[.int .u64 wt, .int .u64 (draw), .int .i64 many] 56)
    have Hbn := Aside0.mk hbn
    have Hlt := Aside0.mk (fun b h => own_lt (b := b) Hs.out.own h)
    clear hd hd' hM hM' hdk hdd hx Hwk hbn
    go_enter Try.func11, Try.ntmps11
    go_wp2_with fail
    go_region_with (go_at_call 20; refine Hpush.out.mono ?_; rintro e w2 ⟨rfl, v2, hs2, hv2, hch2⟩; have HS2 := Aside0.mk hs2; have HV2 := Aside0.mk hv2; have HC2 := Aside0.mk hch2; clear hs2 hv2 hch2)
    have hbo : w2.heap[w.heap.size]? = some (.cells #[.int .u64 wt, .int .u64 (draw), .int .i64 many] 56 (0, 0)) := by
      have h1 := HC2.out.blk (blk_drew Hbn.out) (by
        show ¬ ((w.setCell ⟨g, 3, none⟩ (.int .i64 (many + 1))).heap.size = g ∨ some (w.setCell ⟨g, 3, none⟩ (.int .i64 (many + 1))).heap.size = v.ownBlock)
        rw [World.size_setCell]
        rintro (h | h)
        · omega
        · exact absurd (Hlt.out _ h.symm) (Nat.lt_irrefl _))
      rwa [World.size_setCell] at h1
    have C2 : Chg (fun k => k = g ∨ some k = v.ownBlock) w w2 :=
      ((((Chg.refl _ w).set ⟨g, 3, none⟩ (.int .i64 (many + 1)) (.inl (.inl rfl))).alloc (.cells #[.int .u64 wt, .int .u64 (draw), .int .i64 many] 56)).drew).trans HC2.out (fun _ h => .inl h)
    have HV5 : v2.ownBlock = v.ownBlock ∨ ∃ b, v2.ownBlock = some b ∧ w.heap.size + 1 ≤ b := by
      rcases HV2.out with h | ⟨b, h, hb⟩
      · exact .inl h
      · refine .inr ⟨b, h, Nat.le_trans (Nat.le_of_eq ?_) hb⟩
        show w.heap.size + 1 = ((w.setCell ⟨g, 3, none⟩ (.int .i64 (many + 1))).alloc _).heap.size
        simp
    have HV3 : v2.ownBlock = v.ownBlock ∨ ∃ b, v2.ownBlock = some b ∧ w.heap.size ≤ b := by
      rcases HV2.out with h | ⟨b, h, hb⟩
      · exact .inl h
      · exact .inr ⟨b, h, Nat.le_trans ((((Chg.refl (fun k => k = g) w).set ⟨g, 3, none⟩ (.int .i64 (many + 1)) (.inl rfl)).alloc (.cells #[.int .u64 wt, .int .u64 (draw), .int .i64 many] 56)).drew).size hb⟩
    have hok3 : AllOk (pushL l ⟨wt, draw, many⟩) := pushL_ok Hok.out Hx.out
    obtain ⟨pl, hpl⟩ : ∃ pl, pl = pushL l ⟨wt, draw, many⟩ := ⟨_, rfl⟩
    have hadd : addL keep l ⟨wt, draw, many⟩ = if keep + 1 < pl.length then (popR pl).dropLast else pl := by rw [hpl]; rfl
    have hn2 : pl.length = l.length + 1 := by rw [hpl]; exact pushL_len l ⟨wt, draw, many⟩
    rw [← hpl] at hok3
    have HS3 := Aside0.mk (show Samp w2 g v2 keep M (many + 1) pl by rw [hpl]; exact HS2.out)
    clear hpl
    have HOK3 := Aside0.mk hok3
    have HADD := Aside0.mk hadd
    have HC3 := Aside0.mk C2
    have HVV := Aside0.mk HV3
    have HV6 := Aside0.mk HV5
    have HN2 := Aside0.mk hn2
    obtain ⟨⟨d0, d1, d2, d3⟩, df, dg⟩ := HS3.out.cells
    have ho2 := HS3.out.own
    rw [hn2] at ho2
    obtain ⟨b, cap, hvv, hbl⟩ := own_some ho2
    rw [hvv] at d0
    have e2 : w2.cell? ⟨w.heap.size, 2, none⟩ = some (.int .i64 many) := blk_cell hbo 2
    have hlo := blk_lt hbo
    have hwk : IntKind.i64.wrap (keep + 1) = keep + 1 := by rw [IntKind.wrap_i64]; omega
    have ho3 : 0 ≤ (l.length : Int) := Int.natCast_nonneg _
    clear hc0 hc1 hc2 hc3 hf hg HS2 HV2 HC2 hadd C2 HV3 HV5 hok3 hn2 ho2 hbo Hpush H2 Hbn Hlt
    by_cases hp : keep + 1 < (l.length : Int) + 1
    · have hlp : addL keep l ⟨wt, draw, many⟩ = (popR pl).dropLast := by rw [HADD.out, if_pos (by rw [HN2.out]; omega)]
      have hxx : ∃ x, (popR pl)[pl.length - 1]? = some x := ⟨_, List.getElem?_eq_getElem (by rw [popR_len, HN2.out]; omega)⟩
      obtain ⟨xx, hxx⟩ := hxx
      have Hpop := Aside0.mk (fun n => pop_samp g v2 keep M (many + 1) pl xx (w2.drewN n) (HS3.out.drewN n) (by rw [HN2.out]; omega) (by rw [HN2.out]; omega) HOK3.out hxx)
      have HLP := Aside0.mk hlp
      clear hlp hxx
      have hdec : decide (keep + 1 < (l.length : Int) + 1) = true := decide_eq_true hp
      go_wp2_with fail
      go_quiet (fail)
      go_wp2_with fail
      refine (Hpop.out nq).mono ?_
      rintro e w3 ⟨rfl, v3, hs3, hv3, hc3⟩
      have hlt3 : ∀ b, v2.ownBlock = some b → b < w2.heap.size := fun b h => own_lt HS3.out.own h
      have hne3 : ¬ (w.heap.size = g ∨ some w.heap.size = v2.ownBlock) := by
        rintro (h | h)
        · have := (Hs.out.cells).2.2; omega
        · rcases HV6.out with h' | ⟨b', h', hb'⟩
          · rw [h'] at h; exact absurd (own_lt Hs.out.own h.symm) (Nat.lt_irrefl _)
          · rw [h'] at h; injection h with h; omega
      have e3 : w3.cell? ⟨w.heap.size, 2, none⟩ = some (.int .i64 many) := by
        exact (cell_of_block (hc3.block w.heap.size hlo hne3) 2).trans e2
      have hlo3 : w.heap.size < w3.heap.size := Nat.lt_of_lt_of_le hlo hc3.size
      have HS4 := Aside0.mk hs3
      have HV4 := Aside0.mk hv3
      have HC4 := Aside0.mk hc3
      clear hs3 hv3 hc3 hlt3 hne3
      go_wp2_with fail
      go_ret2
      refine ⟨rfl, v3, by rw [HLP.out]; exact HS4.out, by rw [HV4.out]; exact HVV.out, (HC3.out.drewN nq).trans HC4.out (fun k hk => ?_)⟩
      rcases hk with hk | hk
      · exact .inl (.inl hk)
      · rcases HVV.out with h' | ⟨b', h', hb'⟩
        · rw [h'] at hk; exact .inl (.inr hk)
        · rw [h'] at hk; injection hk with hk; subst hk; exact .inr hb'
    · have hlp : addL keep l ⟨wt, draw, many⟩ = pl := by rw [HADD.out, if_neg (by rw [HN2.out]; omega)]
      have HLP := Aside0.mk hlp
      clear hlp
      have hdec : decide (keep + 1 < (l.length : Int) + 1) = false := decide_eq_false hp
      go_wp2_with fail
      go_quiet (fail)
      go_wp2_with fail
      go_ret2
      exact ⟨rfl, v2, by rw [HLP.out]; exact HS3.out.drewN nq, HVV.out, HC3.out.drewN nq⟩
end Go.Proofs.Ythlmgamdnclmhaa.A

namespace Go.Proofs.Ythlmgamdnclmhaa.A
open Go.RowKit Go.Proofs.YthlmgamdnclmhaaW.PrintWords Go.Proofs.YthlmgamdnclmhaaW.PrintLast Go.Proofs.YthlmgamdnclmhaaW.PrintMore Go.Proofs.Ythlmgamdnclmhaa.R
set_option linter.unusedVariables false
set_option linter.unusedSimpArgs false

/-- A sampler at a block, whatever it keeps. -/
structure SampB (w : World) (g : Nat) (v : Value) (keep M many : Int) : Prop where
  blk : w.heap[g]? = some (.cells #[v, .int .i64 keep, .int .u64 M, .int .i64 many] 54 (0, 0))
theorem Samp.toB {w : World} {g : Nat} {v : Value} {keep M many : Int} {l : List O} (h : Samp w g v keep M many l) : SampB w g v keep M many := ⟨h.blk⟩
theorem SampB.below {w w' : World} {g : Nat} {v : Value} {keep M many : Int} (h : SampB w g v keep M many) (hb : Below w.heap.size w w') : SampB w' g v keep M many := ⟨blk_below h.blk hb⟩
theorem SampB.chg {w w' : World} {g : Nat} {v : Value} {keep M many : Int} (h : SampB w g v keep M many) {S : Nat → Prop} (hc : Chg S w w') (hg : ¬ S g) : SampB w' g v keep M many := ⟨hc.blk h.blk hg⟩
theorem SampB.cells {w : World} {g : Nat} {v : Value} {keep M many : Int} (h : SampB w g v keep M many) : (w.cell? ⟨g, 0, none⟩ = some v ∧ w.cell? ⟨g, 1, none⟩ = some (.int .i64 keep) ∧ w.cell? ⟨g, 2, none⟩ = some (.int .u64 M) ∧ w.cell? ⟨g, 3, none⟩ = some (.int .i64 many)) ∧ (∀ k, w.frozen? ⟨g, k, none⟩ = false) ∧ g < w.heap.size :=
  ⟨⟨blk_cell h.blk 0, blk_cell h.blk 1, blk_cell h.blk 2, blk_cell h.blk 3⟩, fun k => blk_frozen h.blk k, blk_lt h.blk⟩

theorem Div64_i (h lo y : Int) (h0 : 0 ≤ h) (h1 : h < y) (hy : y < K64) (hl : 0 ≤ lo) (hl' : lo < K64) :
    ∃ k, bits_Div64.f k h lo y = some ((h * K64 + lo) / y, (h * K64 + lo) % y) := by
  obtain ⟨a, rfl⟩ := Int.eq_ofNat_of_zero_le h0
  obtain ⟨b, rfl⟩ := Int.eq_ofNat_of_zero_le hl
  obtain ⟨c, rfl⟩ := Int.eq_ofNat_of_zero_le (show 0 ≤ y by omega)
  unfold K64 at *
  obtain ⟨k, hk⟩ := (Go.Proofs.Ythlmgamdnclmhaa.M.Div64_f a b c (by omega) (by omega) (by omega)).rounds
  refine ⟨k, hk.trans ?_⟩
  simp
theorem over_calls (A y : Int) (w : World) (h0 : 0 ≤ A) (h1 : A < K64 * K64) (hy : 1 ≤ y) (hy' : y < K64) :
    Calls Try.prog 36 #[.agg #[.int .u64 (A / K64), .int .u64 (A % K64)], .int .u64 y] w fun e w' => e = .returned (.int .u64 (clip (A / y))) ∧ Below w.heap.size w w' := by
  have e := Int.mul_ediv_add_emod A K64
  have e1 := Int.emod_nonneg A (b := K64) (by decide)
  have e2 := Int.emod_lt_of_pos A K64_pos
  have e3 : 0 ≤ A / K64 := Int.ediv_nonneg h0 (by decide)
  by_cases hc : y ≤ A / K64
  · have hcl : clip (A / y) = 18446744073709551615 := by
      unfold clip
      rw [if_neg]
      · rfl
      · have : K64 ≤ A / y := by
          rw [Int.le_ediv_iff_mul_le (by omega)]
          have h2 : K64 * y ≤ K64 * (A / K64) := Int.mul_le_mul_of_nonneg_left hc (by decide)
          omega
        omega
    rw [hcl]
    exact prio_wide_over.calls 0 _ _ _ _ w (if_pos hc)
  · obtain ⟨k, hk⟩ := Div64_i (A / K64) (A % K64) y e3 (by omega) hy' e1 e2
    rw [show A / K64 * K64 + A % K64 = A by rw [Int.mul_comm]; exact e] at hk
    have hcl : clip (A / y) = A / y := by
      unfold clip
      rw [if_pos]
      rw [Int.ediv_lt_iff_lt_mul (by omega)]
      have h2 : K64 * (A / K64 + 1) ≤ K64 * y := Int.mul_le_mul_of_nonneg_left (by omega) (by decide)
      rw [Int.mul_add] at h2
      omega
    rw [hcl]
    refine prio_wide_over.calls k _ _ _ _ w ?_
    unfold prio_wide_over.f
    rw [if_neg hc, hk]
    rfl
theorem rem_calls (A y : Int) (w : World) (h0 : 0 ≤ A) (h1 : A < K64 * K64) (hy : 1 ≤ y) (hy' : y < K64) :
    Calls Try.prog 35 #[.int .u64 (A / K64), .int .u64 (A % K64), .int .u64 y] w fun e w' => e = .returned (.int .u64 (A % y)) ∧ Below w.heap.size w w' := by
  have e := Int.mul_ediv_add_emod A K64
  have e1 := Int.emod_nonneg A (b := K64) (by decide)
  have e2 := Int.emod_lt_of_pos A K64_pos
  have e3 : 0 ≤ A / K64 := Int.ediv_nonneg h0 (by decide)
  obtain ⟨k, hk⟩ := Div64_i ((A / K64) % y) (A % K64) y (Int.emod_nonneg _ (by omega)) (Int.emod_lt_of_pos _ (by omega)) hy' e1 e2
  have hm : ((A / K64) % y * K64 + A % K64) % y = A % y := by
    conv => rhs; rw [← e]
    rw [Int.add_emod, Int.mul_emod, Int.emod_emod_of_dvd _ (Int.dvd_refl y), ← Int.mul_emod, ← Int.add_emod, Int.mul_comm]
  rw [hm] at hk
  have := bits_Rem64.calls k (A / K64) (A % K64) y (A % y) w (by
    unfold bits_Rem64.f
    rw [if_neg (by omega), Int.tmod_eq_emod_of_nonneg e3, hk]
    rfl)
  exact this.mono fun e w' ⟨he, hd⟩ => ⟨he, hd.below⟩
theorem wabove_calls (A B : Int) (w : World) :
    Calls Try.prog 30 #[.agg #[.int .u64 (A / K64), .int .u64 (A % K64)], .agg #[.int .u64 (B / K64), .int .u64 (B % K64)]] w fun e w' => e = .returned (.bool (decide (B < A))) ∧ Below w.heap.size w w' :=
  prio_wide_above.calls _ _ _ _ _ w wide_lt

set_option maxHeartbeats 4000000 in
set_option maxRecDepth 100000 in
theorem all_calls (g : Nat) (v : Value) (keep M many wt : Int) (w : World) (hs : SampB w g v keep M many) (hM : 0 ≤ M) (hM' : M < K64) (h : 0 ≤ wt) (h' : wt < K64) :
    Calls Try.prog 34 #[.pointer (some ⟨g, 0, none⟩), .int .u64 wt] w fun e w' => e = .returned (.agg #[.int .u64 (allW M wt / K64), .int .u64 (allW M wt % K64)]) ∧ Below w.heap.size w w' := by
  obtain ⟨⟨hc0, hc1, hc2, hc3⟩, hf, hg⟩ := hs.cells
  clear hs
  by_cases h0 : M = 0
  · subst h0
    have e1 : allW 0 wt / K64 = wt := by unfold allW; rw [if_pos rfl]; exact Int.mul_ediv_cancel _ (by decide)
    have e2 : allW 0 wt % K64 = 0 := by unfold allW; rw [if_pos rfl]; exact Int.mul_emod_left _ _
    rw [e1, e2]
    clear e1 e2 h h'
    go_enter Try.func34, Try.ntmps34
    go_wp2_with fail
    refine bodyPost_ret (v := .agg #[.int .u64 wt, .int .u64 0]) (by simp [results, Try.results34, go_sem]) rfl ⟨rfl, ?_⟩
    exact below_alloc (Below.refl _ _) _
  · have e1 : allW M wt = wt * M := if_neg h0
    rw [e1]
    have Ht := Aside0.mk (fun w => times_calls wt M w h h' hM hM')
    have t1 : (M == 0) = false := beq_eq_false_iff_ne.2 h0
    clear e1 h h' hM hM'
    go_enter Try.func34, Try.ntmps34
    obtain ⟨p, hp⟩ : ∃ p, p = wt * M / K64 := ⟨_, rfl⟩
    obtain ⟨q, hq⟩ : ∃ q, q = wt * M % K64 := ⟨_, rfl⟩
    rw [← hp, ← hq] at Ht
    rw [← hp, ← hq]
    clear hp hq
    go_wp2_with fail
    refine (Ht.out _).mono ?_
    rintro e w1 ⟨rfl, hb⟩
    have hl := laid_blk hb
    have hc0 := blk_cell hl.1 0
    have hc1 := blk_cell hl.1 1
    have hf0 := blk_frozen hl.1 0
    have hf1 := blk_frozen hl.1 1
    have hlt := hl.2
    simp only [List.getElem?_toArray] at hc0 hc1
    clear hl
    go_wp2_with fail
    refine bodyPost_ret (v := .agg #[.int .u64 p, .int .u64 q]) (by simp [results, Try.results34, go_sem, hc0, hc1, hf0, hf1, hlt]) rfl ⟨rfl, ?_⟩
    exact below_set (below_set (below_then ((Below.refl _ _).alloc (Nat.le_refl _) _) (by simp) hb) (Nat.le_refl _)) (Nat.le_refl _)

theorem blk3 {w : World} {n : Nat} {a b c : Value} {t : TypeId} (h : w.heap[n]? = some (.cells #[a, b, c] t (0, 0))) : (w.cell? ⟨n, 0, none⟩ = some a ∧ w.cell? ⟨n, 1, none⟩ = some b ∧ w.cell? ⟨n, 2, none⟩ = some c) ∧ (∀ k, w.frozen? ⟨n, k, none⟩ = false) ∧ n < w.heap.size :=
  ⟨⟨blk_cell h 0, blk_cell h 1, blk_cell h 2⟩, fun k => blk_frozen h k, blk_lt h⟩
theorem blk2 {w : World} {n : Nat} {a b : Value} {t : TypeId} (h : w.heap[n]? = some (.cells #[a, b] t (0, 0))) : (w.cell? ⟨n, 0, none⟩ = some a ∧ w.cell? ⟨n, 1, none⟩ = some b) ∧ (∀ k, w.frozen? ⟨n, k, none⟩ = false) ∧ n < w.heap.size :=
  ⟨⟨blk_cell h 0, blk_cell h 1⟩, fun k => blk_frozen h k, blk_lt h⟩

/-- The four blocks of a run of counts: the two offers, the result, the wide number. -/
structure CW (w : World) (n m : Nat) (o b : O) (ah al : Int) (W : World) : Prop where
  k1 : W.heap[n]? = some (.cells #[.int .u64 o.f0, .int .u64 o.f1, .int .i64 o.f2] 56 (0, 0))
  k2 : W.heap[n + 1]? = some (.cells #[.int .u64 b.f0, .int .u64 b.f1, .int .i64 b.f2] 56 (0, 0))
  k3 : W.heap[n + 1 + 1]? = some (.cells #[.int .i64 0, .int .u64 0, .int .u64 0] 33 (0, 0))
  k4 : W.heap[m]? = some (.cells #[.int .u64 ah, .int .u64 al] 75 (0, 0))
  bel : Below w.heap.size w W
  hn : w.heap.size ≤ n
theorem CW.below {w : World} {n m : Nat} {o b : O} {ah al : Int} {W W' : World} (h : CW w n m o b ah al W) (hb : Below W.heap.size W W') : CW w n m o b ah al W' :=
  ⟨blk_below h.k1 hb, blk_below h.k2 hb, blk_below h.k3 hb, blk_below h.k4 hb, below_then h.bel h.bel.size hb, h.hn⟩
theorem CW.drewN {w : World} {n m : Nat} {o b : O} {ah al : Int} {W : World} (h : CW w n m o b ah al W) (k : Nat) : CW w n m o b ah al (W.drewN k) := ⟨h.k1, h.k2, h.k3, h.k4, pw_below_drewN h.bel k, h.hn⟩
theorem CW.drew {w : World} {n m : Nat} {o b : O} {ah al : Int} {W : World} (h : CW w n m o b ah al W) : CW w n m o b ah al W.drew := ⟨h.k1, h.k2, h.k3, h.k4, below_drew h.bel, h.hn⟩
theorem CW.mk0 (w w1 : World) (o b : O) (ah al : Int) (hb : Below (((w.alloc (.cells #[.int .u64 o.f0, .int .u64 o.f1, .int .i64 o.f2] 56)).alloc (.cells #[.int .u64 b.f0, .int .u64 b.f1, .int .i64 b.f2] 56)).alloc (.cells #[.int .i64 0, .int .u64 0, .int .u64 0] 33)).heap.size (((w.alloc (.cells #[.int .u64 o.f0, .int .u64 o.f1, .int .i64 o.f2] 56)).alloc (.cells #[.int .u64 b.f0, .int .u64 b.f1, .int .i64 b.f2] 56)).alloc (.cells #[.int .i64 0, .int .u64 0, .int .u64 0] 33)) w1) :
    CW w w.heap.size w1.heap.size o b ah al (w1.alloc (.cells #[.int .u64 ah, .int .u64 al] 75)) := by
  have hbW : Below w.heap.size w (((w.alloc (.cells #[.int .u64 o.f0, .int .u64 o.f1, .int .i64 o.f2] 56)).alloc (.cells #[.int .u64 b.f0, .int .u64 b.f1, .int .i64 b.f2] 56)).alloc (.cells #[.int .i64 0, .int .u64 0, .int .u64 0] 33)) := below_alloc (below_alloc (below_alloc (Below.refl _ _) _) _) _
  refine ⟨blk_alloc (blk_below (blk_alloc (blk_alloc (blk_new w _) _) _) hb) _, blk_alloc (blk_below (blk_alloc ?_ _) hb) _, blk_alloc (blk_below ?_ hb) _, blk_new _ _, below_alloc (below_then hbW hbW.size hb) _, Nat.le_refl _⟩
  · have := blk_new (w.alloc (.cells #[.int .u64 o.f0, .int .u64 o.f1, .int .i64 o.f2] 56)) (.cells #[.int .u64 b.f0, .int .u64 b.f1, .int .i64 b.f2] 56)
    rwa [World.size_alloc] at this
  · have := blk_new ((w.alloc (.cells #[.int .u64 o.f0, .int .u64 o.f1, .int .i64 o.f2] 56)).alloc (.cells #[.int .u64 b.f0, .int .u64 b.f1, .int .i64 b.f2] 56)) (.cells #[.int .i64 0, .int .u64 0, .int .u64 0] 33)
    rwa [World.size_alloc, World.size_alloc] at this
theorem CW.cells {w : World} {n m : Nat} {o b : O} {ah al : Int} {W : World} (h : CW w n m o b ah al W) :
    (W.cell? ⟨n, 0, none⟩ = some (.int .u64 o.f0) ∧ W.cell? ⟨n, 2, none⟩ = some (.int .i64 o.f2)) ∧ (W.cell? ⟨n + 1, 0, none⟩ = some (.int .u64 b.f0) ∧ W.cell? ⟨n + 1, 1, none⟩ = some (.int .u64 b.f1)) ∧ (W.cell? ⟨m, 0, none⟩ = some (.int .u64 ah) ∧ W.cell? ⟨m, 1, none⟩ = some (.int .u64 al)) :=
  ⟨⟨blk_cell h.k1 0, blk_cell h.k1 2⟩, ⟨blk_cell h.k2 0, blk_cell h.k2 1⟩, ⟨blk_cell h.k4 0, blk_cell h.k4 1⟩⟩
theorem CW.res {w : World} {n m : Nat} {o b : O} {ah al : Int} {W : World} (h : CW w n m o b ah al W) :
    (W.cell? ⟨n + 1 + 1, 0, none⟩ = some (.int .i64 0) ∧ W.cell? ⟨n + 1 + 1, 1, none⟩ = some (.int .u64 0) ∧ W.cell? ⟨n + 1 + 1, 2, none⟩ = some (.int .u64 0)) ∧ (∀ k, W.frozen? ⟨n + 1 + 1, k, none⟩ = false) ∧ n + 1 + 1 < W.heap.size :=
  ⟨⟨blk_cell h.k3 0, blk_cell h.k3 1, blk_cell h.k3 2⟩, fun k => blk_frozen h.k3 k, blk_lt h.k3⟩

theorem CW.after {w : World} {n m : Nat} {o b : O} {ah al : Int} {W : World} (h : CW w n m o b ah al W) (x y z : Value) :
    (((W.setCell ⟨n + 1 + 1, 0, none⟩ x).setCell ⟨n + 1 + 1, 1, none⟩ y).setCell ⟨n + 1 + 1, 2, none⟩ z).cell? ⟨n, 2, none⟩ = some (.int .i64 o.f2) ∧ (((W.setCell ⟨n + 1 + 1, 0, none⟩ x).setCell ⟨n + 1 + 1, 1, none⟩ y).setCell ⟨n + 1 + 1, 2, none⟩ z).cell? ⟨m, 0, none⟩ = some (.int .u64 ah) ∧ (((W.setCell ⟨n + 1 + 1, 0, none⟩ x).setCell ⟨n + 1 + 1, 1, none⟩ y).setCell ⟨n + 1 + 1, 2, none⟩ z).cell? ⟨m, 1, none⟩ = some (.int .u64 al) := by
  have hne : n + 1 + 1 ≠ m := fun e => by
    have h3 := h.k3
    have h4 := h.k4
    rw [e, h4] at h3
    injection h3 with h3; injection h3 with _ h3; exact absurd h3 (by decide)
  have hn : n + 1 + 1 ≠ n := by omega
  refine ⟨?_, ?_, ?_⟩
  · rw [World.cell?_setCell_far _ _ _ _ hn, World.cell?_setCell_far _ _ _ _ hn, World.cell?_setCell_far _ _ _ _ hn]; exact h.cells.1.2
  · rw [World.cell?_setCell_far _ _ _ _ hne, World.cell?_setCell_far _ _ _ _ hne, World.cell?_setCell_far _ _ _ _ hne]; exact h.cells.2.2.1
  · rw [World.cell?_setCell_far _ _ _ _ hne, World.cell?_setCell_far _ _ _ _ hne, World.cell?_setCell_far _ _ _ _ hne]; exact h.cells.2.2.2

set_option maxHeartbeats 4000000 in
set_option maxRecDepth 100000 in
theorem counts_calls (g : Nat) (v : Value) (keep M many : Int) (o bar : O) (w : World) (hs : SampB w g v keep M many) (hM : 0 ≤ M) (hM' : M < K64) (ho : Ok o) (hb : Ok bar) :
    Calls Try.prog 22 #[.pointer (some ⟨g, 0, none⟩), .agg #[.int .u64 o.f0, .int .u64 o.f1, .int .i64 o.f2], .agg #[.int .u64 bar.f0, .int .u64 bar.f1, .int .i64 bar.f2]] w fun e w' => e = .returned (.agg #[.int .i64 (countsV M o bar).1, .int .u64 (countsV M o bar).2.1, .int .u64 (countsV M o bar).2.2]) ∧ Below w.heap.size w w' := by
  obtain ⟨A, hA⟩ : ∃ A, A = allW M bar.f0 := ⟨_, rfl⟩
  have hAb := allW_bd hM hM' hb.w0 hb.w1
  have Hall := Aside0.mk (fun w hs => all_calls g v keep M many bar.f0 w hs hM hM' hb.w0 hb.w1)
  have Hnext := Aside0.mk (fun w => next_calls o.f0 bar.f1 w ho.w0 ho.w1 hb.d0 hb.d1)
  have hcv : countsV M o bar = if A ≤ o.f0 * (bar.f1 + 1) then (o.f2, o.f0, 1) else if bar.f1 + 1 = K64 then (o.f2, bar.f0, 1) else (o.f2, clip (A / (Int.gcd (bar.f1 + 1) (A % (bar.f1 + 1)) : Int)), (bar.f1 + 1) / (Int.gcd (bar.f1 + 1) (A % (bar.f1 + 1)) : Int)) := by rw [hA]; rfl
  rw [← hA] at Hall hAb
  obtain ⟨B, hB⟩ : ∃ B, B = o.f0 * (bar.f1 + 1) := ⟨_, rfl⟩
  rw [← hB] at Hnext hcv
  have HCV := Aside0.mk hcv
  have HAB := Aside0.mk hAb
  have HS := Aside0.mk hs
  have HB := Aside0.mk hb
  have Hab := Aside0.mk (fun w => wabove_calls A B w)
  obtain ⟨t, ht⟩ : ∃ t, t = decide (B < A) := ⟨_, rfl⟩
  rw [← ht] at Hab
  have HT := Aside0.mk ht
  clear ht
  obtain ⟨ah, hah⟩ : ∃ x, x = A / K64 := ⟨_, rfl⟩
  obtain ⟨al, hal⟩ : ∃ x, x = A % K64 := ⟨_, rfl⟩
  obtain ⟨bh, hbh⟩ : ∃ x, x = B / K64 := ⟨_, rfl⟩
  obtain ⟨bl, hbl⟩ : ∃ x, x = B % K64 := ⟨_, rfl⟩
  rw [← hah, ← hal] at Hall Hab
  rw [← hbh, ← hbl] at Hnext Hab
  have Hah := Aside0.mk hah
  have Hal := Aside0.mk hal
  obtain ⟨o0, o1, o2⟩ := o
  obtain ⟨b0, b1, b2⟩ := bar
  simp only at *
  clear hcv hAb hs hb ho hM hM' hA hB hah hal hbh hbl
  have HS1 := Aside0.mk (HS.out.below (below_alloc (below_alloc (below_alloc (Below.refl _ _) (.cells #[.int .u64 o0, .int .u64 o1, .int .i64 o2] 56)) (.cells #[.int .u64 b0, .int .u64 b1, .int .i64 b2] 56)) (.cells #[.int .i64 0, .int .u64 0, .int .u64 0] 33)))
  go_enter Try.func22, Try.ntmps22
  go_wp2_with fail
  refine (Hall.out _ HS1.out).mono ?_
  rintro e w1 ⟨rfl, hb1⟩
  have hC := CW.mk0 w w1 ⟨o0, o1, o2⟩ ⟨b0, b1, b2⟩ ah al hb1
  clear hb1
  have HC := Aside0.mk hC
  clear hC
  go_wp2_with fail
  revert HC
  generalize w.heap.size = n
  generalize w1.heap.size = m
  generalize (w1.alloc (.cells #[.int .u64 ah, .int .u64 al] 75)) = W2
  intro HC
  obtain ⟨⟨c10, c12⟩, ⟨c20, c21⟩, ⟨c40, c41⟩⟩ := HC.out.cells
  go_region_held3 (fun w' => w'.cell? ⟨n, 0, none⟩ = some (.int .u64 o0) ∧ w'.cell? ⟨n + 1, 1, none⟩ = some (.int .u64 b1) ∧ w'.cell? ⟨m, 0, none⟩ = some (.int .u64 ah) ∧ w'.cell? ⟨m, 1, none⟩ = some (.int .u64 al))
    (first | exact ⟨HD.out.cells.1.1, HD.out.cells.2.1.2, HD.out.cells.2.2⟩ | exact ⟨HE.out.cells.1.1, HE.out.cells.2.1.2, HE.out.cells.2.2⟩ | exact ⟨c10, c21, c40, c41⟩)
    (first | (go_at_call 29; refine (Hnext.out _).mono ?_; rintro e w5 ⟨rfl, hb5⟩; have HD := Aside0.mk (HC.out.drew.below hb5)) | (go_at_call 30; refine (Hab.out _).mono ?_; rintro e w6 ⟨rfl, hb6⟩; have HE := Aside0.mk (HD.out.below hb6)))
  clear c10 c12 c20 c21 c40 c41
  obtain ⟨⟨c10, c12⟩, ⟨c20, c21⟩, ⟨c40, c41⟩⟩ := HE.out.cells
  obtain ⟨⟨r0, r1, r2⟩, rf, rn⟩ := HE.out.res
  cases t with
  | false =>
    have h1 : A ≤ B := Int.not_lt.1 (of_decide_eq_false HT.out.symm)
    have hcv := HCV.out
    rw [if_pos h1] at hcv
    have HCV2 := Aside0.mk hcv
    clear hcv h1
    go_wp2_with fail
    refine bodyPost_ret (v := .agg #[.int .i64 o2, .int .u64 o0, .int .u64 1]) (by simp [results, Try.results22, go_sem, r0, r1, r2, rf, rn]) rfl ⟨by rw [HCV2.out], ?_⟩
    have hge := HE.out.hn
    exact below_set (below_set (below_set HE.out.bel (by omega)) (by omega)) (by omega)
  | true =>
    have h1 : B < A := of_decide_eq_true HT.out.symm
    have hcv := HCV.out
    rw [if_neg (by omega)] at hcv
    clear h1
    by_cases h2 : b1 + 1 = K64
    · rw [if_pos h2] at hcv
      have hw : IntKind.u64.wrap (b1 + 1) = 0 := by rw [h2]; rfl
      have hw' : (IntKind.u64.wrap (b1 + 1) == 0) = true := beq_iff_eq.2 hw
      have HCV2 := Aside0.mk hcv
      clear hcv h2
      go_wp2_with fail
      refine bodyPost_ret (v := .agg #[.int .i64 o2, .int .u64 b0, .int .u64 1]) (by simp [results, Try.results22, go_sem, r0, r1, r2, rf, rn]) rfl ⟨by rw [HCV2.out], ?_⟩
      have hge := HE.out.hn
      exact below_set (below_set (below_set HE.out.bel (by omega)) (by omega)) (by omega)
    · rw [if_neg h2] at hcv
      obtain ⟨d, hdd⟩ : ∃ d, d = b1 + 1 := ⟨_, rfl⟩
      rw [← hdd] at hcv h2
      have hb0 := HB.out.d0
      have hb1 := HB.out.d1
      simp only at hb0 hb1
      have hw : IntKind.u64.wrap (b1 + 1) = d := by rw [hdd, IntKind.wrap_u64]; unfold K64 at *; omega
      have hd1 : 1 ≤ d := by omega
      have hd2 : d < K64 := by omega
      have hne : ¬ d = 0 := by omega
      have hne' : (d == 0) = false := beq_eq_false_iff_ne.2 hne
      have HD1 := Aside0.mk hd1
      have HD2 := Aside0.mk hd2
      have HR := Aside0.mk (fun w => rem_calls A d w HAB.out.1 HAB.out.2 hd1 hd2)
      rw [← Hah.out, ← Hal.out] at HR
      have hy0 := Int.emod_nonneg A (show d ≠ 0 by omega)
      have hy1 := Int.emod_lt_of_pos A (show 0 < d by omega)
      obtain ⟨y, hy⟩ := Int.eq_ofNat_of_zero_le hy0
      obtain ⟨x, hx⟩ := Int.eq_ofNat_of_zero_le (show 0 ≤ d by omega)
      rw [hy] at hcv hy1
      rw [hy] at HR
      subst hx
      have HCV2 := Aside0.mk hcv
      have HST := Aside0.mk (show 1 ≤ x ∧ (x : Int) < K64 ∧ (y : Int) < K64 from ⟨by omega, hd2, by omega⟩)
      clear hb0 hb1 hcv hdd h2 hd1 hd2 hy0 hy1 hy
      go_wp2_with fail
      refine (HR.out _).mono ?_
      rintro e w7 ⟨rfl, hb7⟩
      have HF := Aside0.mk (HE.out.below hb7)
      have HOV := Aside0.mk (fun (z : Nat) w h1 h2 => over_calls A z w HAB.out.1 HAB.out.2 h1 h2)
      rw [← Hah.out, ← Hal.out] at HOV
      clear hb7 c10 c12 c20 c21 c40 c41 r0 r1 r2 rf rn
      go_wp2_with fail
      go_loopg [9, 10] y (fun gk va vb wr => ∃ p q : Nat, va = .int .u64 p ∧ vb = .int .u64 q ∧ Aside0 (1 ≤ p ∧ (p : Int) < K64 ∧ q ≤ gk ∧ (q : Int) < K64 ∧ Int.gcd p q = Int.gcd x y) ∧ Aside0 (CW w n m ⟨o0, o1, o2⟩ ⟨b0, b1, b2⟩ ah al wr))
      case atStart => exact ⟨x, y, rfl, rfl, ⟨HST.out.1, HST.out.2.1, Nat.le_refl _, HST.out.2.2, rfl⟩, HF⟩
      case round =>
        obtain ⟨p, q, rfl, rfl, H1, H2⟩ := hrel
        by_cases hq : q = 0
        · subst hq
          have hgp : Int.gcd x y = p := by rw [← H1.out.2.2.2.2]; simp
          rw [hgp] at HCV2
          have HOP := Aside0.mk (HOV.out p)
          have hp1 := H1.out.1
          have hpk := H1.out.2.1
          obtain ⟨P, hP⟩ : ∃ P : Int, P = (p : Int) := ⟨_, rfl⟩
          rw [← hP] at HCV2 HOP hpk ⊢
          have hP1 : 1 ≤ P := by omega
          have hpn : ¬ (P : Int) = 0 := by omega
          have hpn' : (P == 0) = false := beq_eq_false_iff_ne.2 hpn
          obtain ⟨⟨c10, c12⟩, ⟨c20, c21⟩, ⟨c40, c41⟩⟩ := H2.out.cells
          obtain ⟨⟨r0, r1, r2⟩, rf, rn⟩ := H2.out.res
          have hdv : Int.tdiv (x : Int) P = (x : Int) / P := Int.tdiv_eq_ediv_of_nonneg (by omega)
          have hdw : IntKind.u64.wrap ((x : Int) / P) = (x : Int) / P := by
            rw [IntKind.wrap_u64]
            have q0 : 0 ≤ (x : Int) / P := Int.ediv_nonneg (by omega) (by omega)
            have q1 : (x : Int) / P ≤ x := Int.ediv_le_self _ (by omega)
            have q2 := HST.out.2.1
            unfold K64 at q2
            omega
          have HP := Aside0.mk hP1
          have HPK := Aside0.mk hpk
          clear hgp hp1 hpk hP hP1
          go_wp2_with fail
          go_region_held3 (fun w' => w'.cell? ⟨n, 2, none⟩ = some (.int .i64 o2) ∧ w'.cell? ⟨m, 0, none⟩ = some (.int .u64 ah) ∧ w'.cell? ⟨m, 1, none⟩ = some (.int .u64 al))
            (first | exact ⟨HG.out.cells.1.2, HG.out.cells.2.2⟩ | exact HG.out.after _ _ _ | exact ⟨c12, c40, c41⟩)
            (first | (go_at_call 36; refine (HOP.out _ HP.out HPK.out).mono ?_; rintro e w8 ⟨rfl, hb8⟩; have HG := Aside0.mk (H2.out.drew.below hb8); obtain ⟨⟨s0, s1, s2⟩, sf, sn⟩ := HG.out.res))
          all_goals go_wp2_with fail
          all_goals refine bodyPost_ret (v := .agg #[.int .i64 o2, .int .u64 (clip (A / P)), .int .u64 ((x : Int) / P)]) (by simp [results, Try.results22, go_sem, s0, s1, s2, sf, sn]) rfl ⟨by rw [HCV2.out], ?_⟩
          all_goals
            have hge := HG.out.hn
            exact below_set (below_set (below_set HG.out.bel (by omega)) (by omega)) (by omega)
        · have hqn : ¬ (q : Int) = 0 := by omega
          have hqn' : ((q : Int) == 0) = false := beq_eq_false_iff_ne.2 hqn
          have hqn2 : ((q : Int) != 0) = true := bne_iff_ne.2 hqn
          have hmod : Int.tmod (p : Int) (q : Int) = ((p % q : Nat) : Int) := by rw [Int.tmod_eq_emod_of_nonneg (by omega)]; simp
          go_wp2_with fail
          go_region
          all_goals go_wp2_with fail
          go_roundg (gk - 1)
          case measure => have := H1.out; omega
          case rel =>
            obtain ⟨g1, g2, g3, g4, g5⟩ := H1.out
            have hml : p % q < q := Nat.mod_lt _ (by omega)
            refine ⟨q, p % q, rfl, by rw [Int.natCast_emod], ⟨by omega, g4, by omega, by omega, ?_⟩, ⟨H2.out.drew⟩⟩
            rw [← g5, Int.gcd_natCast_natCast, Int.gcd_natCast_natCast, Nat.gcd_comm q, ← Nat.gcd_rec, Nat.gcd_comm]
end Go.Proofs.Ythlmgamdnclmhaa.A

namespace Go.Proofs.Ythlmgamdnclmhaa.A
open Go.RowKit Go.Proofs.YthlmgamdnclmhaaW.PrintWords Go.Proofs.YthlmgamdnclmhaaW.PrintLast Go.Proofs.YthlmgamdnclmhaaW.PrintMore Go.Proofs.Ythlmgamdnclmhaa.R
set_option linter.unusedVariables false
set_option linter.unusedSimpArgs false

def InP (x : K) : Prop := 0 ≤ x.f0 ∧ x.f0 < 1099511627776
abbrev KB := {x : K // InP x}
instance : Inhabited KB := ⟨⟨⟨0, 0, 0⟩, by decide, by decide⟩⟩
def encB (x : KB) : List Value := encK x.1
def cfB (x y : KB) : Int := x.1.f0 - y.1.f0
theorem cfB_lt (x y : KB) : ltOf cfB x y = decide (x.1.f0 < y.1.f0) := by
  unfold ltOf cfB
  rw [decide_eq_decide]; omega
theorem cfB_swo : Sort.SWO (ltOf cfB) where
  irrefl x := by rw [cfB_lt]; simp
  trans x y z h1 h2 := by rw [cfB_lt] at *; simp at *; omega
  ntrans x y z h1 h2 := by rw [cfB_lt] at *; simp at *; omega

set_option maxHeartbeats 1000000 in
theorem closure_calls (x y : KB) (W : World) : Calls Try.prog 24 #[.agg #[.int .i64 x.1.f0, .int .u64 x.1.f1, .int .u64 x.1.f2], .agg #[.int .i64 y.1.f0, .int .u64 y.1.f1, .int .u64 y.1.f2]] W fun e w' => e = .returned (.int .i64 (cfB x y)) ∧ ∃ q os', w' = Sort.grow (W.drewN q) os' := by
  obtain ⟨⟨x0, x1, x2⟩, hx, hx'⟩ := x
  obtain ⟨⟨y0, y1, y2⟩, hy, hy'⟩ := y
  simp only [cfB] at *
  simp only at hx hx' hy hy'
  have hw : IntKind.i64.wrap (x0 - y0) = x0 - y0 := by rw [IntKind.wrap_i64]; omega
  clear hx hx' hy hy'
  go_enter Try.func24, Try.ntmps24
  go_wp2_with fail
  go_ret
  exact ⟨rfl, 0, _, by rw [Sort.alloc_eq_grow, Sort.alloc_eq_grow, Sort.grow_grow]; rfl⟩

theorem cmp_lays (blk off size : Nat) (w : World) : CmpLays Try.prog 24 #[] encB 3 cfB blk off size w := fun _ _ _ _ x y => closure_calls x y _

/-- A row of kept ones: what its block holds. -/
theorem ownP_open {w : World} {base b n cap : Nat} {l : List K} (h : w.ownsRow base 33 3 (.slice (some ⟨b, 0, none⟩) n cap) n (flatP l)) :
    ∃ cur : Array Value, w.heap[b]? = some (.cells cur 33 (0, 0)) ∧ base ≤ b ∧ l.length = n ∧ n ≤ cap ∧ cap ≤ maxLen ∧ cur.size = cap * 3 ∧ cur.toList.take (n * 3) = flatP l := by
  obtain ⟨h1, h2⟩ := h
  rw [flatP_len] at h1
  rcases h2 with ⟨h2, _⟩ | ⟨g, c, cur, h2, hg, hb, hnc, hc, hs, ht⟩
  · cases h2
  · cases h2
    exact ⟨cur, hb, hg, by omega, hnc, hc, hs, ht⟩
theorem ownP_shut {w : World} {base b n cap : Nat} {l : List K} {cur : Array Value} (hb : w.heap[b]? = some (.cells cur 33 (0, 0))) (hg : base ≤ b) (hl : l.length = n) (hn : n ≤ cap) (hc : cap ≤ maxLen) (hs : cur.size = cap * 3) (ht : cur.toList.take (n * 3) = flatP l) :
    w.ownsRow base 33 3 (.slice (some ⟨b, 0, none⟩) n cap) n (flatP l) :=
  ⟨by rw [flatP_len, hl, Nat.mul_comm], .inr ⟨b, cap, cur, rfl, hg, hb, hn, hc, hs, ht⟩⟩

theorem flatK_eq (d : Array KB) : (Sort.flatK encB 3 d).toList = flatP (d.toList.map (·.1)) := by
  apply List.ext_getElem?
  intro t
  by_cases h : t < d.size * 3
  · have h1 : t / 3 < d.size := by omega
    have e1 : (Sort.flatK encB 3 d).toList[t]? = some ((Sort.flatK encB 3 d)[t]!) := by
      rw [Array.getElem?_toList, Array.getElem?_eq_getElem (by rw [Sort.size_flatK]; exact h), getElem!_pos _ _ (by rw [Sort.size_flatK]; exact h)]
    rw [e1, Sort.get_flatK _ _ _ _ h, getElem!_pos d _ h1]
    have e2 := flatP_get (d.toList.map (·.1)) (t / 3) (t % 3) (d[t / 3].1) (by rw [List.getElem?_map, Array.getElem?_toList, Array.getElem?_eq_getElem h1]; rfl) (by omega)
    rw [show 3 * (t / 3) + t % 3 = t by omega] at e2
    rw [e2]
    have h3 : t % 3 < 3 := by omega
    show some ((encK d[t / 3].1)[t % 3]!) = _
    rw [List.getElem?_eq_getElem (by simp [encK]; omega), getElem!_pos]
  · rw [List.getElem?_eq_none (by rw [Array.length_toList, Sort.size_flatK]; omega), List.getElem?_eq_none (by rw [flatP_len]; simp; omega)]

theorem sort_calls (base n : Nat) (v : Value) (l : List K) (w : World) (hn : l.length = n) (hnb : n ≤ 1099511627776) (hp : ∀ k ∈ l, InP k) (ho : w.ownsRow base 33 3 v n (flatP l)) :
    Calls Try.prog 23 #[v, .func (.func 24) #[] #[]] w fun e w' => e = .returned (.tuple #[]) ∧ ∃ r : List K, r.Perm l ∧ r.Pairwise (fun x y => x.f0 ≤ y.f0) ∧ w'.ownsRow base 33 3 v n (flatP r) ∧ Chg (fun k => some k = v.ownBlock) w w' := by
  cases n with
  | zero =>
    obtain ⟨ao, cap, rfl⟩ := own_slice ho
    obtain rfl : l = [] := List.length_eq_zero_iff.1 hn
    exact (AnyF.slices_SortFunc_none Try.sortKept ao cap _ w).mono fun e w' ⟨he, hw⟩ => ⟨he, [], List.Perm.refl _, List.Pairwise.nil, by subst hw; exact ho, by subst hw; exact Chg.refl _ _⟩
  | succ n =>
    have hv : ∃ b cap, v = .slice (some ⟨b, 0, none⟩) (n + 1) cap := by
      obtain ⟨_, h2⟩ := ho
      rcases h2 with ⟨_, h2⟩ | ⟨g, c, cur, h2, _⟩
      · omega
      · exact ⟨g, c, h2⟩
    obtain ⟨b, cap, rfl⟩ := hv
    obtain ⟨cur, hb, hbase, hl, hnc, hcm, hs, ht⟩ := ownP_open ho
    obtain ⟨d, hd⟩ : ∃ d : Array KB, d.toList.map (·.1) = l := ⟨(l.attach.map fun x => (⟨x.1, hp x.1 x.2⟩ : KB)).toArray, by simp⟩
    have hds : d.size = n + 1 := by rw [← hn, ← hd]; simp
    have hF := flatK_eq d
    rw [hd] at hF
    have hH : Sort.HoldsK encB 3 w b 0 d := by
      intro j hj
      rw [Sort.size_flatK, hds] at hj
      refine ⟨?_, blk_frozen hb _⟩
      rw [Nat.zero_add, blk_cell hb, ← Array.getElem?_toList, ← List.getElem?_take_of_lt hj, ht, ← hF, Array.getElem?_toList, Array.getElem?_eq_getElem (by rw [Sort.size_flatK, hds]; exact hj), getElem!_pos _ _ (by rw [Sort.size_flatK, hds]; exact hj)]
      rfl
    have hcon := AnyQ.slices_SortFunc Try.sortKept 3 Try.isAgg33 Try.sizeOf33 encB (fun _ => rfl) (fun x v hv => by simp [encB, encK] at hv; rcases hv with rfl | rfl | rfl <;> rfl) cfB cfB_swo 24 #[] b 0 cap d w (enters_of Try.func24 (by kernel_rfl) rfl) (cmp_lays b 0 d.size w) hH (blk_lt hb) (by rw [hds]; omega)
    rw [hds] at hcon
    refine hcon.mono ?_
    rintro e w' ⟨he, d', q, os, ⟨hps, _, hperm⟩, hsort, rfl⟩
    have hd's : d'.size = n + 1 := hps.trans hds
    refine ⟨he, d'.toList.map (·.1), ?_, ?_, ?_, ?_⟩
    · rw [← hd]
      have hp2 := hperm
      rw [show d'.extract 0 (n + 1) = d' by rw [← hd's]; simp, show d.extract 0 (n + 1) = d by rw [← hds]; simp] at hp2
      exact hp2.map _
    · rw [List.pairwise_map, List.pairwise_iff_getElem]
      intro i j hi hj hij
      have hi' : i < d'.size := by simpa using hi
      have hj' : j < d'.size := by simpa using hj
      have := hsort i j (Nat.zero_le _) hij (by omega)
      rw [cfB_lt, getElem!_pos d' j hj', getElem!_pos d' i hi'] at this
      have := of_decide_eq_false this
      simp only [Array.getElem_toList]
      omega
    · have hb' : (sortWorldK encB 3 w b 0 q d' os).heap[b]? = some (.cells (Sort.putCells id 0 (Sort.flatK encB 3 d') cur) 33 (0, 0)) := by
        unfold sortWorldK
        rw [Sort.heap_grow_old _ _ (by show b < (Array.modify _ _ _).size; rw [Array.size_modify]; exact blk_lt hb)]
        show (Array.modify _ _ _)[b]? = _
        rw [Array.getElem?_modify, if_pos rfl]
        show Option.map _ (w.heap[b]?) = _
        rw [hb]; rfl
      refine ownP_shut hb' hbase (by simp [hd's]) hnc hcm (by unfold Sort.putCells; rw [Array.size_mapIdx]; exact hs) ?_
      rw [← flatK_eq d']
      apply List.ext_getElem?
      intro t
      by_cases h : t < (n + 1) * 3
      · have hc3 : t < cur.size := by rw [hs]; omega
        rw [List.getElem?_take_of_lt h, Array.getElem?_toList, Array.getElem?_toList]
        unfold Sort.putCells
        rw [Array.getElem?_mapIdx, Array.getElem?_eq_getElem hc3, Option.map_some, if_pos ⟨Nat.zero_le _, by rw [Sort.size_flatK, hd's]; omega⟩, Array.getElem?_eq_getElem (by rw [Sort.size_flatK, hd's]; exact h), Nat.sub_zero, getElem!_pos _ _ (by rw [Sort.size_flatK, hd's]; exact h)]
        rfl
      · rw [List.getElem?_eq_none (by rw [List.length_take]; omega), List.getElem?_eq_none (by rw [Array.length_toList, Sort.size_flatK, hd's]; omega)]
    · refine ⟨rfl, rfl, rfl, ?_, ?_⟩
      · show w.heap.size ≤ (Array.append _ _).size
        simp [sortWorldK, Sort.putRowK, Sort.putRow, Sort.mapBlock, Sort.ahead]
      · intro k hk hne
        have hkb : b ≠ k := fun e => hne (by rw [← e]; rfl)
        unfold sortWorldK
        rw [Sort.heap_grow_old _ _ (by show k < (Array.modify _ _ _).size; rw [Array.size_modify]; exact hk)]
        show (Array.modify _ _ _)[k]? = _
        rw [Array.getElem?_modify, if_neg hkb]
        rfl
end Go.Proofs.Ythlmgamdnclmhaa.A

namespace Go.Proofs.Ythlmgamdnclmhaa.A
open Go.RowKit Go.Proofs.YthlmgamdnclmhaaW.PrintWords Go.Proofs.YthlmgamdnclmhaaW.PrintLast Go.Proofs.YthlmgamdnclmhaaW.PrintMore Go.Proofs.Ythlmgamdnclmhaa.R
set_option linter.unusedVariables false
set_option linter.unusedSimpArgs false

/-- The worlds of a run of Close. -/
structure CL (w W : World) (g : Nat) (v : Value) (keep M many : Int) (lb bb : Nat) (rv : Value) (l2 : List O) (bar : O) : Prop where
  smp : SampB W g v keep M many
  row : W.ownsRow 0 56 3 rv l2.length (flat l2)
  bar : W.heap[bb]? = some (.cells #[.int .u64 bar.f0, .int .u64 bar.f1, .int .i64 bar.f2] 56 (0, 0))
  lbk : W.heap[lb]? = some (.cells #[rv] 52 (0, 0))
  chg : Chg (fun k => k = g ∨ some k = v.ownBlock) w W
  rvb : rv.ownBlock = v.ownBlock
  gb : g < w.heap.size
theorem CL.below {w W W' : World} {g : Nat} {v : Value} {keep M many : Int} {lb bb : Nat} {rv : Value} {l2 : List O} {bar : O} (h : CL w W g v keep M many lb bb rv l2 bar) (hb : Below W.heap.size W W') : CL w W' g v keep M many lb bb rv l2 bar :=
  ⟨h.smp.below hb, pw_own_below h.row hb, blk_below h.bar hb, blk_below h.lbk hb, h.chg.below hb, h.rvb, h.gb⟩
theorem own_ty {w : World} {base size n k : Nat} {v : Value} {e t : TypeId} {xs : List Value} {cs : Array Value} {f : Nat × Nat} (h : w.ownsRow base e size v n xs) (hb : w.heap[k]? = some (.cells cs t f)) (hne : t ≠ e) : ¬ some k = v.ownBlock := by
  obtain ⟨_, h2⟩ := h
  rcases h2 with ⟨rfl, _⟩ | ⟨g, c, cur, rfl, hg, hb', _⟩
  · simp [Value.ownBlock]
  · intro e; injection e with e; change k = g at e; subst e; rw [hb'] at hb; injection hb with hb; injection hb with _ hb; exact hne hb.symm
theorem own_ty2 {w : World} {base size n base' size' n' : Nat} {v v' : Value} {e e' : TypeId} {xs xs' : List Value} (h : w.ownsRow base e size v n xs) (h' : w.ownsRow base' e' size' v' n' xs') (hne : e' ≠ e) : ∀ b, v'.ownBlock = some b → ¬ some b = v.ownBlock := by
  intro b hb
  obtain ⟨_, h2⟩ := h'
  rcases h2 with ⟨rfl, _⟩ | ⟨g, c, cur, rfl, hg, hb', _⟩
  · simp [Value.ownBlock] at hb
  · injection hb with hb; change g = b at hb; subst hb; exact own_ty h hb' hne
theorem CL.chg' {w W W' : World} {g : Nat} {v : Value} {keep M many : Int} {lb bb : Nat} {rv : Value} {l2 : List O} {bar : O} (h : CL w W g v keep M many lb bb rv l2 bar) {vo : Value} {n : Nat} {xs : List Value} (ho : W.ownsRow w.heap.size 33 3 vo n xs) (hc : Chg (fun k => some k = vo.ownBlock) W W') : CL w W' g v keep M many lb bb rv l2 bar :=
  ⟨h.smp.chg hc (own_ty ho h.smp.blk (by decide)), hc.own h.row (own_ty2 ho h.row (by decide)), hc.blk h.bar (own_ty ho h.bar (by decide)), hc.blk h.lbk (own_ty ho h.lbk (by decide)), h.chg.trans hc (fun x hx => .inr (own_base ho x hx.symm)), h.rvb, h.gb⟩

theorem CL.chgS {w W W' : World} {g : Nat} {v : Value} {keep M many : Int} {lb bb : Nat} {rv : Value} {l2 : List O} {bar : O} (h : CL w W g v keep M many lb bb rv l2 bar) {S : Nat → Prop} (hc : Chg S W W') (hg : ¬ S g) (hl : ¬ S lb) (hb : ¬ S bb) (hr : ∀ b, rv.ownBlock = some b → ¬ S b) (hx : ∀ x, S x → w.heap.size ≤ x) : CL w W' g v keep M many lb bb rv l2 bar :=
  ⟨h.smp.chg hc hg, hc.own h.row hr, hc.blk h.bar hb, hc.blk h.lbk hl, h.chg.trans hc (fun x hx' => .inr (hx x hx')), h.rvb, h.gb⟩

set_option maxHeartbeats 4000000 in
set_option maxRecDepth 100000 in
theorem Close_calls (g : Nat) (v : Value) (keep M many : Int) (l : List O) (w : World) (hs : Samp w g v keep M many l)
    (hk : 1 ≤ keep) (hk' : keep ≤ 1000) (hl : l.length ≤ keep + 1) (hok : AllOk l) (hpl : ∀ o ∈ l, 0 ≤ o.f2 ∧ o.f2 < 1099511627776) (hM : 0 ≤ M) (hM' : M < K64) :
    Calls Try.prog 12 #[.pointer (some ⟨g, 0, none⟩)] w fun e w' => ∃ vo r, e = .returned vo ∧ r.Perm (closeL keep M l) ∧ r.Pairwise (fun x y => x.f0 ≤ y.f0) ∧ w'.ownsRow w.heap.size 33 3 vo r.length (flatP r) ∧ Samp w' g (.slice none 0 0) keep M 0 [] ∧ Chg (fun k => k = g ∨ some k = v.ownBlock) w w' := by
  obtain ⟨⟨hc0, hc1, hc2, hc3⟩, hf, hg⟩ := hs.cells
  obtain ⟨ao, cap, rfl⟩ := own_slice hs.own
  have Hs := Aside0.mk hs
  have Hok := Aside0.mk hok
  have Hpl := Aside0.mk hpl
  have HM := Aside0.mk hM
  have HM' := Aside0.mk hM'
  obtain ⟨full, hfull⟩ : ∃ b, b = fullL keep l := ⟨_, rfl⟩
  have Hfull := Aside0.mk hfull
  have hdec : decide (keep < (l.length : Int)) = full := by rw [hfull]; rfl
  have Hl := Aside0.mk hl
  clear hs hok hpl hM hM' hfull hl
  go_enter Try.func12, Try.ntmps12
  go_wp2_with fail
  go_quiet (fail)
  go_upto_if 21 with (fail)
  have HCL0 := Aside0.mk (show CL w (((w.alloc (.cells #[.slice ao l.length cap] 52)).drewN nq).alloc (.cells #[.int .u64 0, .int .u64 0, .int .i64 0] 56)) g (.slice ao l.length cap) keep M many w.heap.size (w.heap.size + 1) (.slice ao l.length cap) l zO by
    have hb1 : Below w.heap.size w ((w.alloc (.cells #[.slice ao l.length cap] 52)).drewN nq) := pw_below_drewN (below_alloc (Below.refl _ _) _) nq
    have hb2 : Below w.heap.size w (((w.alloc (.cells #[.slice ao l.length cap] 52)).drewN nq).alloc (.cells #[.int .u64 0, .int .u64 0, .int .i64 0] 56)) := below_alloc hb1 _
    have hs := Hs.out
    refine ⟨hs.toB.below hb2, pw_own_below hs.own hb2, ?_, blk_alloc (blk_drewN (blk_new w _) nq) _, Chg.of_below hb2 _, rfl, hg⟩
    have := blk_new ((w.alloc (.cells #[.slice ao l.length cap] 52)).drewN nq) (.cells #[.int .u64 0, .int .u64 0, .int .i64 0] 56)
    rwa [show ((w.alloc (.cells #[.slice ao l.length cap] 52)).drewN nq).heap.size = w.heap.size + 1 from World.size_alloc w _] at this)
  clear hc0 hc1 hc2 hc3 hf
  generalize (((w.alloc (.cells #[.slice ao l.length cap] 52)).drewN nq).alloc (.cells #[.int .u64 0, .int .u64 0, .int .i64 0] 56)) = W0 at HCL0 ⊢
  go_cut [5] (fun s5 wx => s5 = .bool full ∧ ∃ rv, Aside0 (CL w wx g (.slice ao l.length cap) keep M many w.heap.size (w.heap.size + 1) rv (restL keep l) (barL keep l)))
  case first =>
    cases full with
    | false =>
      have hr : restL keep l = l ∧ barL keep l = zO := by unfold restL barL; rw [← Hfull.out]; exact ⟨rfl, rfl⟩
      have HR := Aside0.mk hr
      clear hr
      go_wp2_with fail
      go_meet
      exact ⟨rfl, .slice ao l.length cap, by rw [HR.out.1, HR.out.2]; exact HCL0⟩
    | true =>
      have hkl : keep < (l.length : Int) := of_decide_eq_true hdec
      obtain ⟨N, hN⟩ : ∃ N, l.length = N + 1 := ⟨l.length - 1, by omega⟩
      have hN1 : 1 ≤ N := by omega
      have hN2 : N + 1 ≤ 1099511627776 := by have := Hl.out; omega
      obtain ⟨⟨x0, x1, x2⟩, hx⟩ : ∃ x, (popR l)[N]? = some x := ⟨_, List.getElem?_eq_getElem (by rw [popR_len]; omega)⟩
      have hbar : barL keep l = ⟨x0, x1, x2⟩ := by unfold barL; rw [← Hfull.out, if_pos rfl, hN, Nat.add_sub_cancel, List.getD_eq_getElem?_getD, hx]; rfl
      have hrest : restL keep l = (popR l).dropLast := by unfold restL; rw [← Hfull.out, if_pos rfl]
      have hrow := HCL0.out.row
      rw [hN] at hrow
      obtain ⟨b, cap', hv, hbs⟩ := own_some hrow
      obtain ⟨hao, hcap⟩ : ao = some ⟨b, 0, none⟩ ∧ cap = cap' := by injection hv with h1 h2 h3; exact ⟨h1, h3⟩
      subst hao hcap
      have hpop := hpop_calls w.heap.size 0 b N cap l ⟨x0, x1, x2⟩ _ hN2 hN1 Hok.out hx (by rw [← hN]; exact blk_cell HCL0.out.lbk 0) (blk_frozen HCL0.out.lbk 0) (fun e => own_ty hrow HCL0.out.lbk (by decide) (by rw [e]; rfl)) hrow
      have Hpop := Aside0.mk hpop
      have HX := Aside0.mk (And.intro hbar hrest)
      have HN := Aside0.mk hN
      have hbw : b < w.heap.size := own_lt Hs.out.own rfl
      have hta := assert_offer ⟨x0, x1, x2⟩
      clear hpop hbar hrest hrow hx hN
      go_wp2_with fail
      refine Hpop.out.mono ?_
      rintro e w1 ⟨rfl, ho1, hg1, hc1⟩
      have hbne : ¬ (w.heap.size + 1 = w.heap.size ∨ w.heap.size + 1 = b) := by omega
      have hgne : ¬ (g = w.heap.size ∨ g = b) := by
        rintro (h | h)
        · omega
        · exact Hs.out.ne (by rw [h]; rfl)
      have hbar := hc1.blk HCL0.out.bar hbne
      have hlb : w1.heap[w.heap.size]? = some (.cells #[.slice (some ⟨b, 0, none⟩) N cap] 52 (0, 0)) := by
        rw [hg1]
        have := blk_set HCL0.out.lbk 0 (.slice (some ⟨b, 0, none⟩) N cap)
        simpa using this
      have hlen : (popR l).dropLast.length = N := by rw [List.length_dropLast, popR_len, HN.out]; rfl
      have hfin : CL w (((w1.setCell ⟨w.heap.size + 1, 0, none⟩ (.int .u64 x0)).setCell ⟨w.heap.size + 1, 1, none⟩ (.int .u64 x1)).setCell ⟨w.heap.size + 1, 2, none⟩ (.int .i64 x2)) g (.slice (some ⟨b, 0, none⟩) l.length cap) keep M many w.heap.size (w.heap.size + 1) (.slice (some ⟨b, 0, none⟩) N cap) (popR l).dropLast ⟨x0, x1, x2⟩ := by
        have hne0 : some (w.heap.size + 1) ≠ (Value.slice (some ⟨b, 0, none⟩) N cap).ownBlock := by intro h; injection h with h; change w.heap.size + 1 = b at h; omega
        have hC := (((((HCL0.out.chg.trans hc1 (T := fun k => k = w.heap.size ∨ k = b) (fun k hk => by
          rcases hk with h | h
          · exact .inr (by omega)
          · exact .inl (.inr (by rw [h]; rfl)))).set ⟨w.heap.size + 1, 0, none⟩ (.int .u64 x0) (.inr (by show w.heap.size ≤ w.heap.size + 1; omega))).set ⟨w.heap.size + 1, 1, none⟩ (.int .u64 x1) (.inr (by show w.heap.size ≤ w.heap.size + 1; omega))).set ⟨w.heap.size + 1, 2, none⟩ (.int .i64 x2) (.inr (by show w.heap.size ≤ w.heap.size + 1; omega))))
        refine ⟨⟨?_⟩, ?_, ?_, ?_, hC, rfl, hg⟩
        · have hgb : g ≠ w.heap.size + 1 := by omega
          exact blk_far (blk_far (blk_far (hc1.blk HCL0.out.smp.blk hgne) hgb _) hgb _) hgb _
        · rw [hlen]
          exact own_setCell (own_setCell (own_setCell ho1 hne0 _) hne0 _) hne0 _
        · have := blk_set (blk_set (blk_set hbar 0 (.int .u64 x0)) 1 (.int .u64 x1)) 2 (.int .i64 x2)
          simpa using this
        · have hlne : w.heap.size ≠ w.heap.size + 1 := by omega
          exact blk_far (blk_far (blk_far hlb hlne _) hlne _) hlne _
      have Fin := Aside0.mk hfin
      obtain ⟨⟨b0, b1, b2⟩, bf, bn⟩ := blk3 hbar
      clear hfin hbar hlb hlen ho1 hg1 hc1 hgne hbne
      go_wp2_with fail
      go_meet
      exact ⟨rfl, _, by rw [HX.out.1, HX.out.2]; exact Fin⟩
  case rest =>
    obtain ⟨rfl, rv, H1⟩ := hcut
    obtain ⟨l2, hl2⟩ : ∃ x, x = restL keep l := ⟨_, rfl⟩
    obtain ⟨bar, hbar⟩ : ∃ x, x = barL keep l := ⟨_, rfl⟩
    have hcl : closeL keep M l = l2.map (tellK full M bar) := by rw [hl2, hbar, Hfull.out]; rfl
    have hok2 : AllOk l2 := by rw [hl2]; exact restL_ok Hok.out
    have hbk : Ok bar := by rw [hbar]; exact barL_ok Hok.out
    have hlen2 : l2.length ≤ 1001 := by
      rw [hl2]
      have := Hl.out
      unfold restL
      split
      · rw [List.length_dropLast, popR_len]; omega
      · omega
    rw [← hl2, ← hbar] at H1
    have HCLS := Aside0.mk hcl
    have HOK2 := Aside0.mk hok2
    have HBK := Aside0.mk hbk
    obtain ⟨ao2, cap2, rfl⟩ := own_slice H1.out.row
    have hlb := H1.out.lbk
    have hc := blk_cell hlb 0
    have hf := blk_frozen hlb 0
    have hlt := blk_lt hlb
    simp only [List.getElem?_toArray] at hc
    clear hcl hok2 hbk hl2 hbar hlb
    go_wp2_with fail
    go_loopg [3, 30] l2.length (fun gk v3 v30 wr => ∃ (i : Nat), v30 = .int .i64 i ∧ Aside0 (i + gk = l2.length) ∧ Aside0 (wr.ownsRow w.heap.size 33 3 v3 i (flatP ((l2.take i).map (tellK full M bar)))) ∧ Aside0 (CL w wr g (.slice ao l.length cap) keep M many w.heap.size (w.heap.size + 1) (.slice ao2 l2.length cap2) l2 bar))
    case atStart => exact ⟨0, rfl, ⟨by omega⟩, ⟨rfl, .inl ⟨rfl, rfl⟩⟩, H1⟩
    case round =>
      obtain ⟨i, rfl, H2, H3, H4⟩ := hrel
      by_cases hi : i < l2.length
      · obtain ⟨m, hm⟩ : ∃ m, l2.length = m + 1 := ⟨l2.length - 1, by omega⟩
        have hrow := H4.out.row
        rw [hm] at hrow
        obtain ⟨b2, cap3, hv, hbl⟩ := own_some hrow
        obtain ⟨hao, hcap⟩ : ao2 = some ⟨b2, 0, none⟩ ∧ cap2 = cap3 := by injection hv with h1 h2 h3; exact ⟨h1, h3⟩
        subst hao hcap
        obtain ⟨cur, hb, hll, hnc, hcm, hs, ht⟩ := own_open H4.out.row
        obtain ⟨o, ho⟩ : ∃ o, l2[i]? = some o := ⟨_, List.getElem?_eq_getElem hi⟩
        obtain ⟨cx0, cx1, cx2⟩ := cur_get ht hll ho
        have hx0 := (blk_cell hb (i * 3)).trans cx0
        have hx1 := (blk_cell hb (i * 3 + 1)).trans cx1
        have hx2 := (blk_cell hb (i * 3 + 2)).trans cx2
        have hoo : Ok o := HOK2.out o (List.mem_of_getElem? ho)
        have htk : (l2.take (i + 1)).map (tellK full M bar) = (l2.take i).map (tellK full M bar) ++ [tellK full M bar o] := by
          rw [List.take_add_one, ho]; simp
        have Htk := Aside0.mk htk
        have Hoo := Aside0.mk hoo
        obtain ⟨o0, o1, o2⟩ := o
        simp only at hx0 hx1 hx2
        obtain ⟨W, hW⟩ : ∃ W, W = (wr.alloc (.cells #[.int .u64 o0, .int .u64 o1, .int .i64 o2] 56)).alloc (.cells #[.int .i64 o2, .int .u64 o0, .int .u64 1] 33) := ⟨_, rfl⟩
        have hbW : Below wr.heap.size wr W := by rw [hW]; exact below_alloc (below_alloc (Below.refl _ _) _) _
        have H5 := Aside0.mk (H4.out.below hbW)
        have H6 := Aside0.mk (pw_own_below H3.out hbW)
        have k1 : W.heap[wr.heap.size]? = some (.cells #[.int .u64 o0, .int .u64 o1, .int .i64 o2] 56 (0, 0)) := by rw [hW]; exact blk_alloc (blk_new wr _) _
        have k2 : W.heap[wr.heap.size + 1]? = some (.cells #[.int .i64 o2, .int .u64 o0, .int .u64 1] 33 (0, 0)) := by
          rw [hW]
          have := blk_new (wr.alloc (.cells #[.int .u64 o0, .int .u64 o1, .int .i64 o2] 56)) (.cells #[.int .i64 o2, .int .u64 o0, .int .u64 1] 33)
          rwa [World.size_alloc] at this
        have hwi : IntKind.i64.wrap ((i : Int) + 1) = (i : Int) + 1 := by rw [IntKind.wrap_i64]; omega
        have hwr0 : w.heap.size ≤ wr.heap.size := H4.out.chg.size
        have K1 := Aside0.mk k1
        have K2 := Aside0.mk k2
        have HW := Aside0.mk hW
        have HWR := Aside0.mk hwr0
        clear hm hrow hv hb hll hs ht ho cx0 cx1 cx2 hoo htk hbW k1 k2 hW hwr0 hbl
        go_upto_if 39 with (fail)
        rw [← HW.out]
        clear hx0 hx1 hx2
        go_cut [8] (fun s8 wx => s8 = .pointer (some ⟨wr.heap.size, 0, none⟩) ∧ Aside0 (CL w wx g (.slice ao l.length cap) keep M many w.heap.size (w.heap.size + 1) (.slice (some ⟨b2, 0, none⟩) l2.length cap2) l2 bar) ∧ Aside0 (wx.ownsRow w.heap.size 33 3 u3 i (flatP ((l2.take i).map (tellK full M bar)))) ∧ Aside0 (wx.heap[wr.heap.size + 1]? = some (.cells #[.int .i64 (tellK full M bar ⟨o0, o1, o2⟩).f0, .int .u64 (tellK full M bar ⟨o0, o1, o2⟩).f1, .int .u64 (tellK full M bar ⟨o0, o1, o2⟩).f2] 33 (0, 0))))
        case first =>
          cases full with
          | false =>
            go_wp2_with fail
            go_meet
            exact ⟨rfl, H5, H6, K2⟩
          | true =>
            have hcc := counts_calls g (.slice ao l.length cap) keep M many ⟨o0, o1, o2⟩ bar W H5.out.smp HM.out HM'.out Hoo.out HBK.out
            have htk : tellK true M bar ⟨o0, o1, o2⟩ = ⟨(countsV M ⟨o0, o1, o2⟩ bar).1, (countsV M ⟨o0, o1, o2⟩ bar).2.1, (countsV M ⟨o0, o1, o2⟩ bar).2.2⟩ := rfl
            obtain ⟨c0, hc0⟩ : ∃ c, c = (countsV M ⟨o0, o1, o2⟩ bar).1 := ⟨_, rfl⟩
            obtain ⟨c1, hc1⟩ : ∃ c, c = (countsV M ⟨o0, o1, o2⟩ bar).2.1 := ⟨_, rfl⟩
            obtain ⟨c2, hc2⟩ : ∃ c, c = (countsV M ⟨o0, o1, o2⟩ bar).2.2 := ⟨_, rfl⟩
            rw [← hc0, ← hc1, ← hc2] at hcc htk
            have Hcc := Aside0.mk hcc
            have HTK := Aside0.mk htk
            obtain ⟨⟨a0, a1, a2⟩, af, an⟩ := blk3 K1.out
            obtain ⟨⟨p0, p1, p2⟩, pf, pn⟩ := blk3 H5.out.bar
            clear hcc htk hc0 hc1 hc2
            go_wp2_with fail
            refine Hcc.out.mono ?_
            rintro e w5 ⟨rfl, hb5⟩
            have hk2 := blk_below K2.out hb5
            have H10 := H5.out.below hb5
            have H11 := pw_own_below H6.out hb5
            have hne : ∀ b, b < wr.heap.size → ¬ b = wr.heap.size + 1 := fun b hb => by omega
            have hfin : CL w (((w5.setCell ⟨wr.heap.size + 1, 0, none⟩ (.int .i64 c0)).setCell ⟨wr.heap.size + 1, 1, none⟩ (.int .u64 c1)).setCell ⟨wr.heap.size + 1, 2, none⟩ (.int .u64 c2)) g (.slice ao l.length cap) keep M many w.heap.size (w.heap.size + 1) (.slice (some ⟨b2, 0, none⟩) l2.length cap2) l2 bar ∧
                (((w5.setCell ⟨wr.heap.size + 1, 0, none⟩ (.int .i64 c0)).setCell ⟨wr.heap.size + 1, 1, none⟩ (.int .u64 c1)).setCell ⟨wr.heap.size + 1, 2, none⟩ (.int .u64 c2)).ownsRow w.heap.size 33 3 u3 i (flatP ((l2.take i).map (tellK true M bar))) ∧
                (((w5.setCell ⟨wr.heap.size + 1, 0, none⟩ (.int .i64 c0)).setCell ⟨wr.heap.size + 1, 1, none⟩ (.int .u64 c1)).setCell ⟨wr.heap.size + 1, 2, none⟩ (.int .u64 c2)).heap[wr.heap.size + 1]? = some (.cells #[.int .i64 c0, .int .u64 c1, .int .u64 c2] 33 (0, 0)) := by
              have hC := Chg.setb (Chg.setb (Chg.setb (Chg.refl (fun k => k = wr.heap.size + 1) w5) 0 (.int .i64 c0)) 1 (.int .u64 c1)) 2 (.int .u64 c2)
              refine ⟨H10.chgS hC (hne _ (Nat.lt_of_lt_of_le hg HWR.out)) (hne _ (blk_lt H4.out.lbk)) (hne _ (blk_lt H4.out.bar)) (fun b hb => hne _ (own_lt H4.out.row hb)) (fun x hx => by rw [hx]; exact Nat.le_succ_of_le HWR.out), hC.own H11 (fun b hb => hne _ (own_lt H3.out hb)), ?_⟩
              have := blk_set (blk_set (blk_set hk2 0 (.int .i64 c0)) 1 (.int .u64 c1)) 2 (.int .u64 c2)
              simpa using this
            have Fin := Aside0.mk hfin
            obtain ⟨⟨q0, q1, q2⟩, qf, qn⟩ := blk3 hk2
            clear hfin H10 H11 hk2 hb5
            go_wp2_with fail
            go_meet
            exact ⟨rfl, ⟨Fin.out.1⟩, ⟨Fin.out.2.1⟩, ⟨by rw [HTK.out]; exact Fin.out.2.2⟩⟩
        case rest =>
          obtain ⟨rfl, H7, H8, H9⟩ := hcut
          obtain ⟨y, hy⟩ : ∃ y, y = tellK full M bar ⟨o0, o1, o2⟩ := ⟨_, rfl⟩
          rw [← hy] at H9 Htk
          obtain ⟨⟨q0, q1, q2⟩, qf, qn⟩ := blk3 H9.out
          have HI := Aside0.mk info33
          have hi2 : (i + 1) * 24 ≤ 140737488355328 := by omega
          obtain ⟨y0, y1, y2⟩ := y
          simp only at q0 q1 q2
          obtain ⟨ao3, cap4, rfl⟩ := own_slice H8.out
          clear hy
          go_wp2_with (first | ((with_reducible refine gate_builtin (b := .append) (xs := #[.tmp 44, .tmp 46]) rfl ?_); at_builtin; refine print_append_cells (w0 := wc) (W := wc) w.heap.size rfl (.tmp 44) (.tmp 46) 29 33 (.agg #[.int .i64 0, .int .u64 0, .int .u64 0]) 3 24 rfl Try.underlying29 HI.out rfl (by decide) (by decide) (.slice ao3 i cap4) i (flatP ((l2.take i).map (tellK full M bar))) (encK ⟨y0, y1, y2⟩) rfl rfl rfl (by intro u hu; simp only [encK, List.mem_cons, List.not_mem_nil, or_false] at hu; rcases hu with rfl | rfl | rfl <;> rfl) H8.out (Below.refl _ _) (Nat.le_trans (H7.out.chg.size) (Nat.le_refl _)) hi2 ?_; intro v1 w1 hown hb hgr hat; have HO1 := Aside0.mk hown; have HG1 := Aside0.mk hgr; clear hown hb hgr hat))
          go_roundg (gk - 1)
          case measure => have := H2.out; omega
          case rel => exact ⟨i + 1, by simp, ⟨by have := H2.out; omega⟩, ⟨by rw [Htk.out, flatP_append]; exact HO1.out⟩, ⟨H7.out.chg' H8.out (Chg.of_grown HG1.out)⟩⟩
      · obtain rfl : i = l2.length := by have := H2.out; omega
        have hown := H3.out
        rw [List.take_length] at hown
        have hin : ∀ k ∈ l2.map (tellK full M bar), InP k := by
          intro k hk
          rw [← HCLS.out] at hk
          unfold closeL at hk
          obtain ⟨o, ho, rfl⟩ := List.mem_map.1 hk
          have h1 := Hpl.out o (restL_mem ho)
          unfold InP tellK
          split
          · rw [countsV_place]; exact h1
          · exact h1
        have Hsort := Aside0.mk (sort_calls w.heap.size l2.length u3 (l2.map (tellK full M bar)) wr (by simp) (by omega) hin hown)
        clear hown hin
        go_wp2_with fail
        refine Hsort.out.mono ?_
        rintro e w5 ⟨rfl, r, hr1, hr2, ho5, hc5⟩
        have H5 := H4.out.chg' H3.out hc5
        have hfin : r.Perm (closeL keep M l) ∧ r.Pairwise (fun x y => x.f0 ≤ y.f0) ∧ ((w5.setCell ⟨g, 0, none⟩ (.slice none 0 0)).setCell ⟨g, 3, none⟩ (.int .i64 0)).ownsRow w.heap.size 33 3 u3 r.length (flatP r) ∧ Samp ((w5.setCell ⟨g, 0, none⟩ (.slice none 0 0)).setCell ⟨g, 3, none⟩ (.int .i64 0)) g (.slice none 0 0) keep M 0 [] ∧ Chg (fun k => k = g ∨ some k = (Value.slice ao l.length cap).ownBlock) w ((w5.setCell ⟨g, 0, none⟩ (.slice none 0 0)).setCell ⟨g, 3, none⟩ (.int .i64 0)) := by
          have hne : some g ≠ u3.ownBlock := own_ty ho5 H5.smp.blk (by decide)
          refine ⟨by rw [HCLS.out]; exact hr1, hr2, ?_, ⟨?_, rfl, .inl ⟨rfl, rfl⟩⟩, (H5.chg.set ⟨g, 0, none⟩ _ (.inl (.inl rfl))).set ⟨g, 3, none⟩ _ (.inl (.inl rfl))⟩
          · rw [hr1.length_eq, List.length_map]
            exact own_setCell (own_setCell ho5 hne _) hne _
          · have := blk_set (blk_set H5.smp.blk 0 (.slice none 0 0)) 3 (.int .i64 0)
            simpa using this
        have Fin := Aside0.mk hfin
        obtain ⟨⟨d0, d1, d2, d3⟩, df, dg⟩ := H5.smp.cells
        clear hfin H5 hr1 hr2 ho5 hc5
        go_wp2_with fail
        go_ret
        exact ⟨u3, r, rfl, Fin.out⟩
end Go.Proofs.Ythlmgamdnclmhaa.A

namespace Go.Proofs.Ythlmgamdnclmhaa.A
open Go.RowKit Go.Proofs.YthlmgamdnclmhaaW.PrintWords Go.Proofs.YthlmgamdnclmhaaW.PrintLast Go.Proofs.YthlmgamdnclmhaaW.PrintMore Go.Proofs.Ythlmgamdnclmhaa.R
set_option linter.unusedVariables false
set_option linter.unusedSimpArgs false

/-- No more than samplers and rows of offers has turned. -/
structure Off (w w' : World) : Prop where
  size : w.heap.size ≤ w'.heap.size
  block : ∀ (k : Nat) (cs : Array Value) (t : TypeId) (f : Nat × Nat), w.heap[k]? = some (.cells cs t f) → t ≠ 54 → t ≠ 56 → w'.heap[k]? = some (.cells cs t f)
theorem Off.refl (w : World) : Off w w := ⟨Nat.le_refl _, fun _ _ _ _ h _ _ => h⟩
theorem Off.trans {a b c : World} (h : Off a b) (k : Off b c) : Off a c := ⟨Nat.le_trans h.size k.size, fun i cs t f hi h1 h2 => k.block i cs t f (h.block i cs t f hi h1 h2) h1 h2⟩
theorem Off.of_below {w w' : World} (h : Below w.heap.size w w') : Off w w' := ⟨h.size, fun _ _ _ _ hk _ _ => blk_below hk h⟩
theorem Off.of_chg {w w' : World} {g : Nat} {v : Value} {keep M many : Int} {l : List O} (hs : Samp w g v keep M many l) (h : Chg (fun k => k = g ∨ some k = v.ownBlock) w w') : Off w w' :=
  ⟨h.size, fun k cs t f hk h1 h2 => h.blk hk (by
    rintro (e | e)
    · subst e; rw [hs.blk] at hk; injection hk with hk; injection hk with _ hk; exact h1 hk.symm
    · exact own_ty hs.own hk h2 e)⟩
theorem Off.own {w w' : World} (h : Off w w') {v : Value} {base size n : Nat} {e : TypeId} {xs : List Value} (ho : w.ownsRow base e size v n xs) (h1 : e ≠ 54) (h2 : e ≠ 56) : w'.ownsRow base e size v n xs := by
  obtain ⟨p1, p2⟩ := ho
  refine ⟨p1, ?_⟩
  rcases p2 with p2 | ⟨g, cap, cur, rfl, hg, hb, r⟩
  · exact .inl p2
  · exact .inr ⟨g, cap, cur, rfl, hg, h.block g _ _ _ hb h1 h2, r⟩

structure SR (w0 w : World) (g : Nat) (keep M : Int) (L : List O) : Prop where
  mk ::
  out : ∃ v l, Samp w g v keep M L.length l ∧ Inv keep l L ∧ w0.heap.size ≤ g ∧ (∀ b, v.ownBlock = some b → w0.heap.size ≤ b) ∧ Below w0.heap.size w0 w
theorem SR.bel {w0 w : World} {g : Nat} {keep M : Int} {L : List O} (h : SR w0 w g keep M L) : Below w0.heap.size w0 w := by
  obtain ⟨v, l, _, _, _, _, hb⟩ := h.out; exact hb
theorem SR.below {w0 w w' : World} {g : Nat} {keep M : Int} {L : List O} (h : SR w0 w g keep M L) (hb : Below w.heap.size w w') : SR w0 w' g keep M L := by
  obtain ⟨v, l, h1, h2, h3, h4, h5⟩ := h.out
  exact ⟨v, l, h1.below hb, h2, h3, h4, below_then h5 h5.size hb⟩
/-- A store elsewhere. -/
theorem SR.set {w0 w : World} {g : Nat} {keep M : Int} {L : List O} (h : SR w0 w g keep M L) {b : Nat} {cs : Array Value} {t : TypeId} {f : Nat × Nat} (hb : w.heap[b]? = some (.cells cs t f)) (h1 : t ≠ 54) (h2 : t ≠ 56) (h0 : w0.heap.size ≤ b) (o : Nat) (u : Value) : SR w0 (w.setCell ⟨b, o, none⟩ u) g keep M L := by
  obtain ⟨v, l, p1, p2, p3, p4, p5⟩ := h.out
  refine ⟨v, l, ⟨blk_far p1.blk (fun e => ?_) u, own_setCell p1.own (fun e => own_ty p1.own hb h2 e) u⟩, p2, p3, p4, below_set p5 h0⟩
  change g = b at e
  subst e; rw [p1.blk] at hb; injection hb with hb; injection hb with _ hb; exact h1 hb.symm

theorem Chg.to_below {w0 w w' : World} {S : Nat → Prop} (h : Chg S w w') (hb : Below w0.heap.size w0 w) (hs : ∀ k, S k → w0.heap.size ≤ k) : Below w0.heap.size w0 w' :=
  ⟨h.os.trans hb.os, h.tape.trans hb.tape, h.output.trans hb.output, Nat.le_trans hb.size h.size, fun k hk => (h.block k (Nat.lt_of_lt_of_le hk hb.size) (fun hS => absurd (hs k hS) (by omega))).trans (hb.block k hk)⟩

theorem New_SR (w0 w : World) (keep M : Int) (hb : Below w0.heap.size w0 w) (h1 : 1 ≤ keep) (h2 : keep ≤ 1000) :
    Calls Try.prog 10 #[.int .i64 keep, .int .u64 M] w fun e w' => e = .returned (.pointer (some ⟨w.heap.size, 0, none⟩)) ∧ SR w0 w' w.heap.size keep M [] ∧ Below w.heap.size w w' :=
  (New_calls keep M w h1 h2).mono fun e w' ⟨he, hs, hb'⟩ => ⟨he, ⟨_, _, hs, Inv.nil keep (by omega), hb.size, fun b h => (by cases h), below_then hb hb.size hb'⟩, hb'⟩
theorem Len_SR (w0 w : World) (g : Nat) (keep M : Int) (L : List O) (h : SR w0 w g keep M L) :
    Calls Try.prog 14 #[.pointer (some ⟨g, 0, none⟩)] w fun e w' => e = .returned (.int .i64 L.length) ∧ SR w0 w' g keep M L ∧ Below w.heap.size w w' := by
  obtain ⟨v, l, h1, _⟩ := h.out
  exact (SLen_calls g v keep M L.length l w h1).mono fun e w' ⟨he, hb⟩ => ⟨he, h.below hb, hb⟩
theorem AddBad_SR (w0 w : World) (g : Nat) (keep M wt draw : Int) (L : List O) (h : SR w0 w g keep M L) (hw : wt = 0 ∨ 4294967296 < wt) :
    Calls Try.prog 11 #[.pointer (some ⟨g, 0, none⟩), .int .u64 wt, .int .u64 draw] w fun e w' => e = .returned (.tuple #[.int .i64 (-1), .int .u16 1]) ∧ SR w0 w' g keep M L ∧ Below w.heap.size w w' :=
  (Add_bad g wt draw w hw).mono fun e w' ⟨he, hb⟩ => ⟨he, h.below hb, hb⟩
theorem Add_SR (w0 w : World) (g : Nat) (keep M wt draw : Int) (L : List O) (h : SR w0 w g keep M L) (hk : 1 ≤ keep) (hk' : keep ≤ 1000) (hn : L.length < 1099511627776)
    (hw : 1 ≤ wt) (hw' : wt ≤ 4294967296) (hd : 0 ≤ draw) (hd' : draw < K64) (hM : 0 ≤ M) (hM' : M < K64) :
    Calls Try.prog 11 #[.pointer (some ⟨g, 0, none⟩), .int .u64 wt, .int .u64 draw] w fun e w' => e = .returned (.tuple #[.int .i64 L.length, .int .u16 0]) ∧ SR w0 w' g keep M (L ++ [⟨wt, drawL M draw, L.length⟩]) ∧ Off w w' := by
  obtain ⟨v, l, h1, h2, h3, h4, h5⟩ := h.out
  refine (Add_calls g v keep M L.length l wt draw w h1 hk hk' h2.len (by omega) (by omega) h2.okl hw hw' hd hd' hM hM').mono fun e w' ⟨he, v', hs, hv, hc⟩ => ⟨he, ⟨v', _, ?_, h2.add _ ?_ rfl, h3, fun b hb => ?_, hc.to_below h5 (fun k hk => ?_)⟩, Off.of_chg h1 hc⟩
  · rw [List.length_append, List.length_singleton]; exact hs
  · have := drawL_ok M draw hd hd' hM'
    exact ⟨by show 0 ≤ wt; omega, by show wt < K64; unfold K64; omega, this.1, this.2⟩
  · rcases hv with hv | ⟨b', hv, hb'⟩
    · exact h4 b (hv ▸ hb)
    · rw [hv] at hb; injection hb with hb; subst hb; exact Nat.le_trans h5.size hb'
  · rcases hk with hk | hk
    · subst hk; exact h3
    · exact h4 k hk.symm
theorem Close_SR (w0 w : World) (g : Nat) (keep M : Int) (L : List O) (h : SR w0 w g keep M L) (hk : 1 ≤ keep) (hk' : keep ≤ 1000) (hn : L.length < 1099511627776) (hM : 0 ≤ M) (hM' : M < K64) :
    Calls Try.prog 12 #[.pointer (some ⟨g, 0, none⟩)] w fun e w' => ∃ vo, e = .returned vo ∧ w'.ownsRow w.heap.size 33 3 vo (closeS keep M L).length (flatP (closeS keep M L)) ∧ SR w0 w' g keep M [] ∧ Off w w' := by
  obtain ⟨v, l, h1, h2, h3, h4, h5⟩ := h.out
  refine (Close_calls g v keep M L.length l w h1 hk hk' h2.len h2.okl (fun o ho => ?_) hM hM').mono fun e w' ⟨vo, r, he, hp, hs, ho, hs2, hc⟩ => ?_
  · have := h2.pl.bd (h2.mem ho); omega
  · have hr := close_eq (by omega) h2 hp hs
    subst hr
    refine ⟨vo, he, ho, ⟨_, _, hs2, Inv.nil keep (by omega), h3, fun b hb => (by cases hb), hc.to_below h5 (fun k hk => ?_)⟩, Off.of_chg h1 hc⟩
    rcases hk with hk | hk
    · subst hk; exact h3
    · exact h4 k hk.symm
end Go.Proofs.Ythlmgamdnclmhaa.A
