/- Whether a state is in a space. -/
import Derived.Test.YtabliglgeiajlaaGreatHB
set_option linter.unusedSimpArgs false
set_option linter.unusedVariables false
namespace Go.Proofs.YtabliglgeiajlaaGreat.AM
open Go Go.RowKit Go.Proofs
set_option maxRecDepth 100000
set_option maxHeartbeats 4000000

theorem far_fn (h : Bool) (sp : Sp) (v : Int) (h0 : 0 ≤ sp.val) (h1 : sp.val ≤ 20) : Fn Tryz.prog 94 [.v (.int .i64 v), .fad (spF h sp)] [] (.v (.bool (!inB (-sp.val) sp.val v))) [] := by
  have hw : IntKind.i64.wrap (0 - sp.val) = -sp.val := by rw [wrapI (by omega) (by omega)]; omega
  obtain ⟨x, hx⟩ : ∃ x, decide (v < -sp.val) = x := ⟨_, rfl⟩
  have he : (!inB (-sp.val) sp.val v) = (x || decide (sp.val < v)) := by
    rw [← hx, Bool.eq_iff_iff]; first | (simp [inB]; done) | (simp [inB]; omega)
  rw [he]
  simp only [spF]
  refine Fn.of (fn := Tryz.f94) (by kernel_rfl) rfl (by kernel_rfl) ⟨[.v (.int .i64 v), .fad [.v (.int .i64 sp.code), .v (.int .i64 sp.mem), .v (.int .i64 sp.stack), .v (.int .i64 sp.val), .sl h 1 (intRow sp.ws)], .v undef, .v undef, .v undef, .v undef, .v undef, .v undef, .v undef, .v undef, .v undef, .v undef, .v undef, .v undef, .v undef], []⟩ rfl ?_
  cases x
  all_goals
    repeat' first | (with_reducible first | refine AWP_seq' ?_ | refine k_normal ?_ | refine AWP_ret ?_) | ((with_reducible refine AWP_reg fun KC J hJ hKC => ?_); simp (maxSteps := 10000000) only [push_cast, seval, ↓reduceIte, hw, hx, undef]) | ((with_reducible refine hJ _ _ ?_); clear hJ hKC KC J)
    refine ret_plain ?_
    simp (maxSteps := 10000000) only [push_cast, seval, ↓reduceIte, show Tryz.f94.results = #[(.tmp 3)] from rfl]
    exact Lq
theorem hasI_fn (h : Bool) (sp : Sp) (x : Int × Int × Int) (h0 : 0 ≤ sp.val) (h1 : sp.val ≤ 20) (hx : 0 ≤ x.1) (hl : x.1 < sp.ws.length) (hw : sp.ws.length ≤ 1000) :
    Fn Tryz.prog 95 [.agg [.v (.int .i64 x.1), .v (.int .i64 x.2.1), .v (.int .i64 x.2.2)], .fad (spF h sp), .fad [.fn 94 [.fad (spF h sp)]]] [] (.v (.bool (!instrIn sp x))) [] := by
  obtain ⟨o, v, l⟩ := x
  simp only at hx hl ⊢
  obtain ⟨k, rfl⟩ : ∃ k : Nat, o = k := ⟨o.toNat, by omega⟩
  have h2 := far_fn h sp v h0 h1
  have hk : sp.ws[k]? = some sp.ws[k] := List.getElem?_eq_getElem (by omega)
  obtain ⟨w, hw0⟩ : ∃ w, sp.ws[k] = w := ⟨_, rfl⟩
  rw [hw0] at hk
  have hg : sp.ws.getD k 0 = w := by rw [List.getD_eq_getElem?_getD, hk]; rfl
  have hi : instrIn sp ((k : Int), v, l) = (!(w == 0) && (!((k : Int) == 1) || inB (-sp.val) sp.val v)) := by
    have hde : ∀ a b : Int, decide (a = b) = (a == b) := fun a b => by rw [Bool.eq_iff_iff]; simp
    simp only [instrIn, Int.toNat_natCast, hde]
    rw [hg]
  rw [hi]
  obtain ⟨a, ha⟩ : ∃ a, (w == 0) = a := ⟨_, rfl⟩
  obtain ⟨b, hb⟩ : ∃ b, ((k : Int) == 1) = b := ⟨_, rfl⟩
  obtain ⟨c, hc⟩ : ∃ c, inB (-sp.val) sp.val v = c := ⟨_, rfl⟩
  rw [hc] at h2 ⊢
  rw [ha, hb]
  simp only [spF] at h2 ⊢
  refine Fn.of (fn := Tryz.f95) (by kernel_rfl) rfl (by kernel_rfl) ⟨[.agg [.v (.int .i64 (k : Int)), .v (.int .i64 v), .v (.int .i64 l)], .fad [.v (.int .i64 sp.code), .v (.int .i64 sp.mem), .v (.int .i64 sp.stack), .v (.int .i64 sp.val), .sl h 1 (intRow sp.ws)], .fad [.fn 94 [.fad [.v (.int .i64 sp.code), .v (.int .i64 sp.mem), .v (.int .i64 sp.stack), .v (.int .i64 sp.val), .sl h 1 (intRow sp.ws)]]], .v undef, .v undef, .v undef, .v undef, .v undef, .v undef, .v undef, .v undef, .v undef, .v undef, .v undef, .v undef, .v undef, .v undef, .v undef, .v undef, .v undef, .v undef, .v undef, .v undef], []⟩ rfl ?_
  cases a
  case true =>
    repeat' first | (with_reducible first | refine AWP_seq' ?_ | refine k_normal ?_ | refine AWP_ret ?_) | ((with_reducible refine AWP_reg fun KC J hJ hKC => ?_); simp (maxSteps := 10000000) only [push_cast, seval, ↓reduceIte, getE_intRow hk, ha, undef]) | ((with_reducible refine And.intro ?_ ?_); · exact Sq) | ((with_reducible refine hJ _ _ ?_); clear hJ hKC KC J)
    refine ret_plain ?_
    simp (maxSteps := 10000000) only [push_cast, seval, ↓reduceIte, show Tryz.f95.results = #[(.tmp 4)] from rfl]
    exact Lq
  cases b
  all_goals
    repeat' first | (with_reducible first | refine AWP_seq' ?_ | refine k_normal ?_ | refine AWP_ret ?_) | ((with_reducible refine AWP_reg fun KC J hJ hKC => ?_); simp (maxSteps := 10000000) only [push_cast, seval, ↓reduceIte, getE_intRow hk, ha, hb, undef]) | ((with_reducible refine And.intro ?_ ?_); · exact Sq) | (refine hKC _ _ _ _ _ (callV0 (h2) rfl rfl rfl ?_ ?_); (· exact Lq); simp (maxSteps := 10000000) only [push_cast, seval, ↓reduceIte, getE_intRow hk, ha, hb, undef]) | ((with_reducible refine hJ _ _ ?_); clear hJ hKC KC J)
    refine ret_plain ?_
    simp (maxSteps := 10000000) only [push_cast, seval, ↓reduceIte, show Tryz.f95.results = #[(.tmp 4)] from rfl]
    exact Lq
def nearA (sp : Sp) (a : Int × Int) : Bool := inB (-sp.val) sp.val a.1
def nearS (sp : Sp) (x : Bool × Int × Int) : Bool := x.1 || inB (-sp.val) sp.val x.2.1
theorem hasA_fn (h : Bool) (sp : Sp) (x : Int × Int) (h0 : 0 ≤ sp.val) (h1 : sp.val ≤ 20) : Fn Tryz.prog 99 [.agg [.v (.int .i64 x.1), .v (.int .i64 x.2)], .fad [.fn 94 [.fad (spF h sp)]]] [] (.v (.bool (!nearA sp x))) [] := by
  have h2 := far_fn h sp x.1 h0 h1
  unfold nearA
  simp only [spF] at h2 ⊢
  refine Fn.of (fn := Tryz.f99) (by kernel_rfl) rfl (by kernel_rfl) ⟨[.agg [.v (.int .i64 x.1), .v (.int .i64 x.2)], .fad [.fn 94 [.fad [.v (.int .i64 sp.code), .v (.int .i64 sp.mem), .v (.int .i64 sp.stack), .v (.int .i64 sp.val), .sl h 1 (intRow sp.ws)]]], .v undef, .v undef, .v undef, .v undef, .v undef, .v undef], []⟩ rfl ?_
  repeat' first | (with_reducible first | refine AWP_seq' ?_ | refine k_normal ?_ | refine AWP_ret ?_) | ((with_reducible refine AWP_reg fun KC J hJ hKC => ?_); simp (maxSteps := 10000000) only [push_cast, seval, ↓reduceIte]) | (refine hKC _ _ _ _ _ (callV0 (h2) rfl rfl rfl ?_ ?_); (· exact Lq); simp (maxSteps := 10000000) only [push_cast, seval, ↓reduceIte]) | ((with_reducible refine hJ _ _ ?_); clear hJ hKC KC J)
  refine ret_plain ?_
  simp (maxSteps := 10000000) only [push_cast, seval, ↓reduceIte, show Tryz.f99.results = #[(.tmp 3)] from rfl]
  exact Lq
theorem hasS_fn (h : Bool) (sp : Sp) (x : Bool × Int × Int) (h0 : 0 ≤ sp.val) (h1 : sp.val ≤ 20) : Fn Tryz.prog 101 [.agg [.v (.bool x.1), .v (.int .i64 x.2.1), .v (.int .i64 x.2.2)], .fad [.fn 94 [.fad (spF h sp)]]] [] (.v (.bool (!nearS sp x))) [] := by
  obtain ⟨r, v, l⟩ := x
  have h2 := far_fn h sp v h0 h1
  simp only [nearS, spF] at h2 ⊢
  cases r
  · refine Fn.of (fn := Tryz.f101) (by kernel_rfl) rfl (by kernel_rfl) ⟨[.agg [.v (.bool false), .v (.int .i64 v), .v (.int .i64 l)], .fad [.fn 94 [.fad [.v (.int .i64 sp.code), .v (.int .i64 sp.mem), .v (.int .i64 sp.stack), .v (.int .i64 sp.val), .sl h 1 (intRow sp.ws)]]], .v undef, .v undef, .v undef, .v undef, .v undef, .v undef, .v undef, .v undef, .v undef, .v undef, .v undef], []⟩ rfl ?_
    repeat' first | (with_reducible first | refine AWP_seq' ?_ | refine k_normal ?_ | refine AWP_ret ?_) | ((with_reducible refine AWP_reg fun KC J hJ hKC => ?_); simp (maxSteps := 10000000) only [push_cast, seval, ↓reduceIte, undef]) | (refine hKC _ _ _ _ _ (callV0 (h2) rfl rfl rfl ?_ ?_); (· exact Lq); simp (maxSteps := 10000000) only [push_cast, seval, ↓reduceIte, undef]) | ((with_reducible refine hJ _ _ ?_); clear hJ hKC KC J)
    refine ret_plain ?_
    simp (maxSteps := 10000000) only [push_cast, seval, ↓reduceIte, show Tryz.f101.results = #[(.tmp 3)] from rfl]
    exact Lq
  · refine Fn.of (fn := Tryz.f101) (by kernel_rfl) rfl (by kernel_rfl) ⟨[.agg [.v (.bool true), .v (.int .i64 v), .v (.int .i64 l)], .fad [.fn 94 [.fad [.v (.int .i64 sp.code), .v (.int .i64 sp.mem), .v (.int .i64 sp.stack), .v (.int .i64 sp.val), .sl h 1 (intRow sp.ws)]]], .v undef, .v undef, .v undef, .v undef, .v undef, .v undef, .v undef, .v undef, .v undef, .v undef, .v undef], []⟩ rfl ?_
    repeat' first | (with_reducible first | refine AWP_seq' ?_ | refine k_normal ?_ | refine AWP_ret ?_) | ((with_reducible refine AWP_reg fun KC J hJ hKC => ?_); simp (maxSteps := 10000000) only [push_cast, seval, ↓reduceIte, undef]) | ((with_reducible refine hJ _ _ ?_); clear hJ hKC KC J)
    refine ret_plain ?_
    simp (maxSteps := 10000000) only [push_cast, seval, ↓reduceIte, show Tryz.f101.results = #[(.tmp 3)] from rfl]
    exact Lq
theorem hasB_eq (n : Nat) (sp : Sp) (s : Sta) : hasB n sp s = (staB n s && (decide ((s.code.length : Int) ≤ sp.code) && (decide ((s.mem.length : Int) ≤ sp.mem) && (decide ((s.stack.length : Int) ≤ sp.stack) && (decide (s.out.length = 0) &&
    ((!s.code.any fun x => !instrIn sp x) && ((!s.mem.any fun x => !nearA sp x) && (!s.stack.any fun x => !nearS sp x)))))))) := by
  simp only [any_not]; rfl
theorem instrB_op {n : Nat} {x : Int × Int × Int} (h : instrB n x = true) : 0 ≤ x.1 ∧ x.1 < 13 := by
  unfold instrB at h
  split at h
  · omega
  · simp only [Bool.and_eq_true, inB_iff] at h; omega
/-- Whether a state is in a space, or why not to be told. -/
def hasF (ns : List ByteArray) (us : List Nat) (sp : Sp) (s : Sta) : Bool := decide (mayG ns us sp = 0) && hasB us.length sp s
set_option maxHeartbeats 16000000 in
theorem genHas_fn (f g h : Bool) (ns : List ByteArray) (us : List Nat) (sp : Sp) (s : Sta) (hs : Szs ns) (hu : U32 us) (hw : sp.ws.length ≤ 1000) (hl : Sml s) :
    Fn Tryz.prog 48 [.agg [.sl f 1 (strRow ns), .sl g 1 (u32Row us)], .agg (spF h sp), .agg (staF false false false false s)] [] (.tup [.v (.bool (hasF ns us sp s)), .v (.int .i64 (mayG ns us sp))]) [] := by
  have h1 := genMay_fn f g h ns us sp hs hu hw
  unfold hasF
  obtain ⟨m, hm⟩ : ∃ m, mayG ns us sp = m := ⟨_, rfl⟩
  rw [hm] at h1 ⊢
  by_cases h0 : m = 0
  case neg =>
    have h0' : (m != 0) = true := by simpa using h0
    rw [decide_eq_false h0, Bool.false_and]
    simp only [spF, staF] at h1 ⊢
    refine Fn.of (fn := Tryz.f48) (by kernel_rfl) rfl (by kernel_rfl) ⟨[.agg [.sl f 1 (strRow ns), .sl g 1 (u32Row us)], .agg [.v (.int .i64 sp.code), .v (.int .i64 sp.mem), .v (.int .i64 sp.stack), .v (.int .i64 sp.val), .sl h 1 (intRow sp.ws)], .agg [.v (.int .i64 s.v), .v (.int .i64 s.l), .sl false 3 (tRow s.code), .sl false 2 (pRow s.mem), .sl false 3 (sRow s.stack), .sl false 2 (pRow s.out)], .v undef, .v undef, .v undef, .v undef, .v undef, .v undef, .v undef, .v undef, .v undef, .v undef, .v undef, .v undef, .v undef, .v undef, .v undef, .v undef, .v undef, .v undef, .v undef, .v undef, .v undef, .v undef, .v undef, .v undef, .v undef, .v undef, .v undef, .v undef, .v undef, .v undef, .v undef, .v undef, .v undef, .v undef, .v undef, .v undef, .v undef, .v undef, .v undef, .v undef, .v undef, .v undef, .v undef, .v undef, .v undef, .v undef, .v undef, .v undef, .v undef, .v undef, .v undef, .v undef, .v undef, .v undef, .v undef, .v undef, .v undef, .v undef, .v undef, .v undef, .v undef, .v undef, .v undef, .v undef, .v undef, .v undef, .v undef, .v undef, .v undef, .v undef, .v undef, .v undef], []⟩ rfl ?_
    repeat' first | (with_reducible first | refine AWP_seq' ?_ | refine k_normal ?_ | refine k_ret ?_ | refine AWP_ret ?_) | ((with_reducible refine AWP_reg fun KC J hJ hKC => ?_); simp (maxSteps := 10000000) only [push_cast, seval, ↓reduceIte, h0', undef]) | (refine hKC _ _ _ _ _ (callV0 (h1) rfl rfl rfl ?_ ?_); (· exact Lq); simp (maxSteps := 10000000) only [push_cast, seval, ↓reduceIte, h0', undef]) | ((with_reducible refine hJ _ _ ?_); clear hJ hKC KC J) | ((with_reducible refine AWP_condT ?_ ?_); · rfl)
    refine ret_plain ?_
    simp (maxSteps := 10000000) only [push_cast, seval, ↓reduceIte, show Tryz.f48.results = #[(.tmp 6), (.tmp 7)] from rfl]
    exact Lq
  subst h0
  rw [decide_eq_true rfl, Bool.true_and]
  have hok : checkF ns us = 0 ∧ SpOk sp := by
    unfold mayG at hm
    split at hm
    · rename_i hc
      split at hm
      · rename_i hsp; exact ⟨hc, spB_iff.1 hsp⟩
      · cases hm
    · rename_i hc; exact absurd hm hc
  obtain ⟨hc, hsp⟩ := hok
  have h2 := stRight_fn f g ns us s hs hu hc hl
  obtain ⟨l1, l2, l3, l4⟩ := hl
  have hst : staB us.length s = true → ∀ x ∈ s.code, 0 ≤ x.1 ∧ x.1 < sp.ws.length := fun hh x hx => by
    simp only [staB, codeB, Bool.and_eq_true, List.all_eq_true] at hh
    have := instrB_op (hh.1.1 x hx)
    rw [hsp.wl]; exact this
  have h3 := fun hh => containsFuncT_fn false s.code 95 [.fad (spF h sp), .fad [.fn 94 [.fad (spF h sp)]]] (fun x => !instrIn sp x) l1 rfl (fun x hx => hasI_fn h sp x hsp.v0 hsp.v1 (hst hh x hx).1 (hst hh x hx).2 hw)
  have h4 := containsFuncA_fn false s.mem 99 [.fad [.fn 94 [.fad (spF h sp)]]] (fun x => !nearA sp x) l2 rfl (fun x _ => hasA_fn h sp x hsp.v0 hsp.v1)
  have h5 := containsFuncS_fn false s.stack 101 [.fad [.fn 94 [.fad (spF h sp)]]] (fun x => !nearS sp x) l3 rfl (fun x _ => hasS_fn h sp x hsp.v0 hsp.v1)
  rw [hasB_eq]
  obtain ⟨c1, hc1⟩ : ∃ x, staB us.length s = x := ⟨_, rfl⟩
  obtain ⟨d1, hd1⟩ : ∃ x, decide ((s.code.length : Int) ≤ sp.code) = x := ⟨_, rfl⟩
  obtain ⟨d2, hd2⟩ : ∃ x, decide ((s.mem.length : Int) ≤ sp.mem) = x := ⟨_, rfl⟩
  obtain ⟨d3, hd3⟩ : ∃ x, decide ((s.stack.length : Int) ≤ sp.stack) = x := ⟨_, rfl⟩
  obtain ⟨d4, hd4⟩ : ∃ x, decide (s.out.length = 0) = x := ⟨_, rfl⟩
  have hd4' : ((s.out.length : Int) == 0) = d4 := by rw [← hd4, Bool.eq_iff_iff]; simp
  obtain ⟨c3, hc3⟩ : ∃ x, (s.code.any fun x => !instrIn sp x) = x := ⟨_, rfl⟩
  obtain ⟨c4, hc4⟩ : ∃ x, (s.mem.any fun x => !nearA sp x) = x := ⟨_, rfl⟩
  obtain ⟨c5, hc5⟩ : ∃ x, (s.stack.any fun x => !nearS sp x) = x := ⟨_, rfl⟩
  rw [hc1] at h2 h3 ⊢
  rw [hc3] at h3 ⊢
  rw [hc4] at h4 ⊢
  rw [hc5] at h5 ⊢
  rw [hd1, hd2, hd3, hd4]
  clear hst
  simp only [spF, staF] at h1 h2 h3 h4 h5 ⊢
  refine Fn.of (fn := Tryz.f48) (by kernel_rfl) rfl (by kernel_rfl) ⟨[.agg [.sl f 1 (strRow ns), .sl g 1 (u32Row us)], .agg [.v (.int .i64 sp.code), .v (.int .i64 sp.mem), .v (.int .i64 sp.stack), .v (.int .i64 sp.val), .sl h 1 (intRow sp.ws)], .agg [.v (.int .i64 s.v), .v (.int .i64 s.l), .sl false 3 (tRow s.code), .sl false 2 (pRow s.mem), .sl false 3 (sRow s.stack), .sl false 2 (pRow s.out)], .v undef, .v undef, .v undef, .v undef, .v undef, .v undef, .v undef, .v undef, .v undef, .v undef, .v undef, .v undef, .v undef, .v undef, .v undef, .v undef, .v undef, .v undef, .v undef, .v undef, .v undef, .v undef, .v undef, .v undef, .v undef, .v undef, .v undef, .v undef, .v undef, .v undef, .v undef, .v undef, .v undef, .v undef, .v undef, .v undef, .v undef, .v undef, .v undef, .v undef, .v undef, .v undef, .v undef, .v undef, .v undef, .v undef, .v undef, .v undef, .v undef, .v undef, .v undef, .v undef, .v undef, .v undef, .v undef, .v undef, .v undef, .v undef, .v undef, .v undef, .v undef, .v undef, .v undef, .v undef, .v undef, .v undef, .v undef, .v undef, .v undef, .v undef, .v undef, .v undef], []⟩ rfl ?_
  cases d1
  case false =>
    cases c1
    all_goals
      repeat' first | (refine AWP_freezeR 4 1 rfl (by (simp (maxSteps := 10000000) only [push_cast, seval, ↓reduceIte]) <;> rfl) ?_; simp (maxSteps := 10000000) only [push_cast, seval, ↓reduceIte, frSt, frSlot, fr3, fr2, fr1, fr0, sameB, arrOf, hd1, hd2, hd3, hd4', undef]) | (refine AWP_freezeR 5 4 rfl (by (simp (maxSteps := 10000000) only [push_cast, seval, ↓reduceIte]) <;> rfl) ?_; simp (maxSteps := 10000000) only [push_cast, seval, ↓reduceIte, frSt, frSlot, fr3, fr2, fr1, fr0, sameB, arrOf, hd1, hd2, hd3, hd4', undef]) | (with_reducible first | refine AWP_seq' ?_ | refine k_normal ?_ | refine AWP_ret ?_ | refine AWP_skip ?_) | ((with_reducible refine AWP_reg fun KC J hJ hKC => ?_); simp (maxSteps := 10000000) only [push_cast, seval, ↓reduceIte, hd1, hd2, hd3, hd4', undef]) | (refine hKC _ _ _ _ _ (callV0 (h1) rfl rfl rfl ?_ ?_); (· exact Lq); simp (maxSteps := 10000000) only [push_cast, seval, ↓reduceIte, hd1, hd2, hd3, hd4', undef]) | (refine hKC _ _ _ _ _ (callV0 (h2) rfl rfl rfl ?_ ?_); (· exact Lq); simp (maxSteps := 10000000) only [push_cast, seval, ↓reduceIte, hd1, hd2, hd3, hd4', undef]) | ((with_reducible refine hJ _ _ ?_); clear hJ hKC KC J) | ((with_reducible refine AWP_condF ?_ ?_); · rfl)
      refine ret_plain ?_
      simp (maxSteps := 10000000) only [push_cast, seval, ↓reduceIte, show Tryz.f48.results = #[(.tmp 6), (.tmp 7)] from rfl]
      exact Lq
  cases d2
  case false =>
    cases c1
    all_goals
      repeat' first | (refine AWP_freezeR 4 1 rfl (by (simp (maxSteps := 10000000) only [push_cast, seval, ↓reduceIte]) <;> rfl) ?_; simp (maxSteps := 10000000) only [push_cast, seval, ↓reduceIte, frSt, frSlot, fr3, fr2, fr1, fr0, sameB, arrOf, hd1, hd2, hd3, hd4', undef]) | (refine AWP_freezeR 5 4 rfl (by (simp (maxSteps := 10000000) only [push_cast, seval, ↓reduceIte]) <;> rfl) ?_; simp (maxSteps := 10000000) only [push_cast, seval, ↓reduceIte, frSt, frSlot, fr3, fr2, fr1, fr0, sameB, arrOf, hd1, hd2, hd3, hd4', undef]) | (with_reducible first | refine AWP_seq' ?_ | refine k_normal ?_ | refine AWP_ret ?_ | refine AWP_skip ?_) | ((with_reducible refine AWP_reg fun KC J hJ hKC => ?_); simp (maxSteps := 10000000) only [push_cast, seval, ↓reduceIte, hd1, hd2, hd3, hd4', undef]) | (refine hKC _ _ _ _ _ (callV0 (h1) rfl rfl rfl ?_ ?_); (· exact Lq); simp (maxSteps := 10000000) only [push_cast, seval, ↓reduceIte, hd1, hd2, hd3, hd4', undef]) | (refine hKC _ _ _ _ _ (callV0 (h2) rfl rfl rfl ?_ ?_); (· exact Lq); simp (maxSteps := 10000000) only [push_cast, seval, ↓reduceIte, hd1, hd2, hd3, hd4', undef]) | ((with_reducible refine hJ _ _ ?_); clear hJ hKC KC J) | ((with_reducible refine AWP_condF ?_ ?_); · rfl)
      refine ret_plain ?_
      simp (maxSteps := 10000000) only [push_cast, seval, ↓reduceIte, show Tryz.f48.results = #[(.tmp 6), (.tmp 7)] from rfl]
      exact Lq
  cases d3
  case false =>
    cases c1
    all_goals
      repeat' first | (refine AWP_freezeR 4 1 rfl (by (simp (maxSteps := 10000000) only [push_cast, seval, ↓reduceIte]) <;> rfl) ?_; simp (maxSteps := 10000000) only [push_cast, seval, ↓reduceIte, frSt, frSlot, fr3, fr2, fr1, fr0, sameB, arrOf, hd1, hd2, hd3, hd4', undef]) | (refine AWP_freezeR 5 4 rfl (by (simp (maxSteps := 10000000) only [push_cast, seval, ↓reduceIte]) <;> rfl) ?_; simp (maxSteps := 10000000) only [push_cast, seval, ↓reduceIte, frSt, frSlot, fr3, fr2, fr1, fr0, sameB, arrOf, hd1, hd2, hd3, hd4', undef]) | (with_reducible first | refine AWP_seq' ?_ | refine k_normal ?_ | refine AWP_ret ?_ | refine AWP_skip ?_) | ((with_reducible refine AWP_reg fun KC J hJ hKC => ?_); simp (maxSteps := 10000000) only [push_cast, seval, ↓reduceIte, hd1, hd2, hd3, hd4', undef]) | (refine hKC _ _ _ _ _ (callV0 (h1) rfl rfl rfl ?_ ?_); (· exact Lq); simp (maxSteps := 10000000) only [push_cast, seval, ↓reduceIte, hd1, hd2, hd3, hd4', undef]) | (refine hKC _ _ _ _ _ (callV0 (h2) rfl rfl rfl ?_ ?_); (· exact Lq); simp (maxSteps := 10000000) only [push_cast, seval, ↓reduceIte, hd1, hd2, hd3, hd4', undef]) | ((with_reducible refine hJ _ _ ?_); clear hJ hKC KC J) | ((with_reducible refine AWP_condF ?_ ?_); · rfl)
      refine ret_plain ?_
      simp (maxSteps := 10000000) only [push_cast, seval, ↓reduceIte, show Tryz.f48.results = #[(.tmp 6), (.tmp 7)] from rfl]
      exact Lq
  cases c1
  case false =>
    repeat' first | (refine AWP_freezeR 4 1 rfl (by (simp (maxSteps := 10000000) only [push_cast, seval, ↓reduceIte]) <;> rfl) ?_; simp (maxSteps := 10000000) only [push_cast, seval, ↓reduceIte, frSt, frSlot, fr3, fr2, fr1, fr0, sameB, arrOf, hd1, hd2, hd3, hd4', undef]) | (refine AWP_freezeR 5 4 rfl (by (simp (maxSteps := 10000000) only [push_cast, seval, ↓reduceIte]) <;> rfl) ?_; simp (maxSteps := 10000000) only [push_cast, seval, ↓reduceIte, frSt, frSlot, fr3, fr2, fr1, fr0, sameB, arrOf, hd1, hd2, hd3, hd4', undef]) | (with_reducible first | refine AWP_seq' ?_ | refine k_normal ?_ | refine AWP_ret ?_ | refine AWP_skip ?_) | ((with_reducible refine AWP_reg fun KC J hJ hKC => ?_); simp (maxSteps := 10000000) only [push_cast, seval, ↓reduceIte, hd1, hd2, hd3, hd4', undef]) | (refine hKC _ _ _ _ _ (callV0 (h1) rfl rfl rfl ?_ ?_); (· exact Lq); simp (maxSteps := 10000000) only [push_cast, seval, ↓reduceIte, hd1, hd2, hd3, hd4', undef]) | (refine hKC _ _ _ _ _ (callV0 (h2) rfl rfl rfl ?_ ?_); (· exact Lq); simp (maxSteps := 10000000) only [push_cast, seval, ↓reduceIte, hd1, hd2, hd3, hd4', undef]) | ((with_reducible refine hJ _ _ ?_); clear hJ hKC KC J) | ((with_reducible refine AWP_condF ?_ ?_); · rfl)
    refine ret_plain ?_
    simp (maxSteps := 10000000) only [push_cast, seval, ↓reduceIte, show Tryz.f48.results = #[(.tmp 6), (.tmp 7)] from rfl]
    exact Lq
  have h3 := h3 rfl
  cases d4
  case false =>
    repeat' first | (refine AWP_freezeR 4 1 rfl (by (simp (maxSteps := 10000000) only [push_cast, seval, ↓reduceIte]) <;> rfl) ?_; simp (maxSteps := 10000000) only [push_cast, seval, ↓reduceIte, frSt, frSlot, fr3, fr2, fr1, fr0, sameB, arrOf, hd1, hd2, hd3, hd4', undef]) | (refine AWP_freezeR 5 4 rfl (by (simp (maxSteps := 10000000) only [push_cast, seval, ↓reduceIte]) <;> rfl) ?_; simp (maxSteps := 10000000) only [push_cast, seval, ↓reduceIte, frSt, frSlot, fr3, fr2, fr1, fr0, sameB, arrOf, hd1, hd2, hd3, hd4', undef]) | (with_reducible first | refine AWP_seq' ?_ | refine k_normal ?_ | refine AWP_ret ?_ | refine AWP_skip ?_) | ((with_reducible refine AWP_reg fun KC J hJ hKC => ?_); simp (maxSteps := 10000000) only [push_cast, seval, ↓reduceIte, hd1, hd2, hd3, hd4', undef]) | (refine hKC _ _ _ _ _ (callV0 (h1) rfl rfl rfl ?_ ?_); (· exact Lq); simp (maxSteps := 10000000) only [push_cast, seval, ↓reduceIte, hd1, hd2, hd3, hd4', undef]) | (refine hKC _ _ _ _ _ (callV0 (h2) rfl rfl rfl ?_ ?_); (· exact Lq); simp (maxSteps := 10000000) only [push_cast, seval, ↓reduceIte, hd1, hd2, hd3, hd4', undef]) | ((with_reducible refine hJ _ _ ?_); clear hJ hKC KC J) | ((with_reducible refine AWP_condF ?_ ?_); · rfl)
    refine ret_plain ?_
    simp (maxSteps := 10000000) only [push_cast, seval, ↓reduceIte, show Tryz.f48.results = #[(.tmp 6), (.tmp 7)] from rfl]
    exact Lq
  cases c3
  case true =>
    repeat' first | (refine AWP_freezeR 4 1 rfl (by (simp (maxSteps := 10000000) only [push_cast, seval, ↓reduceIte]) <;> rfl) ?_; simp (maxSteps := 10000000) only [push_cast, seval, ↓reduceIte, frSt, frSlot, fr3, fr2, fr1, fr0, sameB, arrOf, hd1, hd2, hd3, hd4', undef]) | (refine AWP_freezeR 5 4 rfl (by (simp (maxSteps := 10000000) only [push_cast, seval, ↓reduceIte]) <;> rfl) ?_; simp (maxSteps := 10000000) only [push_cast, seval, ↓reduceIte, frSt, frSlot, fr3, fr2, fr1, fr0, sameB, arrOf, hd1, hd2, hd3, hd4', undef]) | (with_reducible first | refine AWP_seq' ?_ | refine k_normal ?_ | refine AWP_ret ?_ | refine AWP_skip ?_) | ((with_reducible refine AWP_reg fun KC J hJ hKC => ?_); simp (maxSteps := 10000000) only [push_cast, seval, ↓reduceIte, hd1, hd2, hd3, hd4', undef]) | (refine hKC _ _ _ _ _ (callV0 (h1) rfl rfl rfl ?_ ?_); (· exact Lq); simp (maxSteps := 10000000) only [push_cast, seval, ↓reduceIte, hd1, hd2, hd3, hd4', undef]) | (refine hKC _ _ _ _ _ (callV0 (h2) rfl rfl rfl ?_ ?_); (· exact Lq); simp (maxSteps := 10000000) only [push_cast, seval, ↓reduceIte, hd1, hd2, hd3, hd4', undef]) | (refine hKC _ _ _ _ _ (callV0 (h3) rfl rfl rfl ?_ ?_); (· exact Lq); simp (maxSteps := 10000000) only [push_cast, seval, ↓reduceIte, hd1, hd2, hd3, hd4', undef]) | ((with_reducible refine hJ _ _ ?_); clear hJ hKC KC J) | ((with_reducible refine AWP_condF ?_ ?_); · rfl)
    refine ret_plain ?_
    simp (maxSteps := 10000000) only [push_cast, seval, ↓reduceIte, show Tryz.f48.results = #[(.tmp 6), (.tmp 7)] from rfl]
    exact Lq
  cases c4
  case true =>
    repeat' first | (refine AWP_freezeR 4 1 rfl (by (simp (maxSteps := 10000000) only [push_cast, seval, ↓reduceIte]) <;> rfl) ?_; simp (maxSteps := 10000000) only [push_cast, seval, ↓reduceIte, frSt, frSlot, fr3, fr2, fr1, fr0, sameB, arrOf, hd1, hd2, hd3, hd4', undef]) | (refine AWP_freezeR 5 4 rfl (by (simp (maxSteps := 10000000) only [push_cast, seval, ↓reduceIte]) <;> rfl) ?_; simp (maxSteps := 10000000) only [push_cast, seval, ↓reduceIte, frSt, frSlot, fr3, fr2, fr1, fr0, sameB, arrOf, hd1, hd2, hd3, hd4', undef]) | (with_reducible first | refine AWP_seq' ?_ | refine k_normal ?_ | refine AWP_ret ?_ | refine AWP_skip ?_) | ((with_reducible refine AWP_reg fun KC J hJ hKC => ?_); simp (maxSteps := 10000000) only [push_cast, seval, ↓reduceIte, hd1, hd2, hd3, hd4', undef]) | (refine hKC _ _ _ _ _ (callV0 (h1) rfl rfl rfl ?_ ?_); (· exact Lq); simp (maxSteps := 10000000) only [push_cast, seval, ↓reduceIte, hd1, hd2, hd3, hd4', undef]) | (refine hKC _ _ _ _ _ (callV0 (h2) rfl rfl rfl ?_ ?_); (· exact Lq); simp (maxSteps := 10000000) only [push_cast, seval, ↓reduceIte, hd1, hd2, hd3, hd4', undef]) | (refine hKC _ _ _ _ _ (callV0 (h3) rfl rfl rfl ?_ ?_); (· exact Lq); simp (maxSteps := 10000000) only [push_cast, seval, ↓reduceIte, hd1, hd2, hd3, hd4', undef]) | (refine hKC _ _ _ _ _ (callV0 (h4) rfl rfl rfl ?_ ?_); (· exact Lq); simp (maxSteps := 10000000) only [push_cast, seval, ↓reduceIte, hd1, hd2, hd3, hd4', undef]) | ((with_reducible refine hJ _ _ ?_); clear hJ hKC KC J) | ((with_reducible refine AWP_condF ?_ ?_); · rfl)
    refine ret_plain ?_
    simp (maxSteps := 10000000) only [push_cast, seval, ↓reduceIte, show Tryz.f48.results = #[(.tmp 6), (.tmp 7)] from rfl]
    exact Lq
  repeat' first | (refine AWP_freezeR 4 1 rfl (by (simp (maxSteps := 10000000) only [push_cast, seval, ↓reduceIte]) <;> rfl) ?_; simp (maxSteps := 10000000) only [push_cast, seval, ↓reduceIte, frSt, frSlot, fr3, fr2, fr1, fr0, sameB, arrOf, hd1, hd2, hd3, hd4', undef]) | (refine AWP_freezeR 5 4 rfl (by (simp (maxSteps := 10000000) only [push_cast, seval, ↓reduceIte]) <;> rfl) ?_; simp (maxSteps := 10000000) only [push_cast, seval, ↓reduceIte, frSt, frSlot, fr3, fr2, fr1, fr0, sameB, arrOf, hd1, hd2, hd3, hd4', undef]) | (with_reducible first | refine AWP_seq' ?_ | refine k_normal ?_ | refine AWP_ret ?_ | refine AWP_skip ?_) | ((with_reducible refine AWP_reg fun KC J hJ hKC => ?_); simp (maxSteps := 10000000) only [push_cast, seval, ↓reduceIte, hd1, hd2, hd3, hd4', undef]) | (refine hKC _ _ _ _ _ (callV0 (h1) rfl rfl rfl ?_ ?_); (· exact Lq); simp (maxSteps := 10000000) only [push_cast, seval, ↓reduceIte, hd1, hd2, hd3, hd4', undef]) | (refine hKC _ _ _ _ _ (callV0 (h2) rfl rfl rfl ?_ ?_); (· exact Lq); simp (maxSteps := 10000000) only [push_cast, seval, ↓reduceIte, hd1, hd2, hd3, hd4', undef]) | (refine hKC _ _ _ _ _ (callV0 (h3) rfl rfl rfl ?_ ?_); (· exact Lq); simp (maxSteps := 10000000) only [push_cast, seval, ↓reduceIte, hd1, hd2, hd3, hd4', undef]) | (refine hKC _ _ _ _ _ (callV0 (h4) rfl rfl rfl ?_ ?_); (· exact Lq); simp (maxSteps := 10000000) only [push_cast, seval, ↓reduceIte, hd1, hd2, hd3, hd4', undef]) | (refine hKC _ _ _ _ _ (callV0 (h5) rfl rfl rfl ?_ ?_); (· exact Lq); simp (maxSteps := 10000000) only [push_cast, seval, ↓reduceIte, hd1, hd2, hd3, hd4', undef]) | ((with_reducible refine hJ _ _ ?_); clear hJ hKC KC J) | ((with_reducible refine AWP_condF ?_ ?_); · rfl)
  refine ret_plain ?_
  simp (maxSteps := 10000000) only [push_cast, seval, ↓reduceIte, show Tryz.f48.results = #[(.tmp 6), (.tmp 7)] from rfl]
  exact Lq
end Go.Proofs.YtabliglgeiajlaaGreat.AM
