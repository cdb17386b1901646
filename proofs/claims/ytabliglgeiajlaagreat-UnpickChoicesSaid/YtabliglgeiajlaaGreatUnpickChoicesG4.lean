/- Walks and plain laws, put together: part 4. -/
import Derived.Test.YtabliglgeiajlaaGreatUnpickChoicesG2
import Derived.Test.YtabliglgeiajlaaGreatUnpickChoicesG3
import Derived.Test.YtabliglgeiajlaaGreatUnpickChoicesG1
import Derived.Test.YtabliglgeiajlaaGreatUnpickChoicesG0
import Derived.Test.YtabliglgeiajlaaGreatMc
set_option linter.unusedSimpArgs false
set_option linter.unusedVariables false
namespace Go.Proofs.YtabliglgeiajlaaGreat.AM
open Go Go.RowKit Go.Proofs
set_option maxRecDepth 100000
set_option maxHeartbeats 8000000
theorem zMy (h : Bool) (sp : Sp) (v : Int) (h0 : 0 ≤ sp.val) (h1 : sp.val ≤ 20) : Fn Tryz.prog 94 [.v (.int .i64 v), .fad (spF h sp)] [] (.v (.bool (!inB (-sp.val) sp.val v))) [] := by
 have hw : IntKind.i64.wrap (0 - sp.val) = -sp.val := by rw [zCP (by omega) (by omega)]; omega
 obtain ⟨x, hx⟩ : ∃ x, decide (v < -sp.val) = x := ⟨_, rfl⟩
 have he : (!inB (-sp.val) sp.val v) = (x || decide (sp.val < v)) := by
  rw [← hx, Bool.eq_iff_iff]; first | (simp [inB]; done) | (simp [inB]; omega)
 rw [he]
 simp only [spF]
 refine Fn.of (fn := Tryz.f94) (by kernel_rfl) rfl (by kernel_rfl) ⟨[.v (.int .i64 v), .fad [.v (.int .i64 sp.code), .v (.int .i64 sp.mem), .v (.int .i64 sp.stack), .v (.int .i64 sp.val), .sl h 1 (zK sp.ws)], .v undef, .v undef, .v undef, .v undef, .v undef, .v undef, .v undef, .v undef, .v undef, .v undef, .v undef, .v undef, .v undef], []⟩ rfl ?_
 cases x
 all_goals
  repeat' first | (with_reducible first | refine zA ?_ | refine zB ?_ | refine zI ?_) | ((with_reducible refine zC fun KC J hJ hKC => ?_); simp (maxSteps := 9999999) only [push_cast, seval, ↓reduceIte, hw, hx, undef]) | ((with_reducible refine hJ _ _ ?_); clear hJ hKC KC J)
  refine zE ?_
  simp (maxSteps := 9999999) only [push_cast, seval, ↓reduceIte, show Tryz.f94.results = #[(.tmp 3)] from rfl]
  exact Lq
theorem zRJ (h : Bool) (sp : Sp) (x : Int × Int × Int) (h0 : 0 ≤ sp.val) (h1 : sp.val ≤ 20) (hx : 0 ≤ x.1) (hl : x.1 < sp.ws.length) (hw : sp.ws.length ≤ 1000) :
  Fn Tryz.prog 95 [.agg [.v (.int .i64 x.1), .v (.int .i64 x.2.1), .v (.int .i64 x.2.2)], .fad (spF h sp), .fad [.fn 94 [.fad (spF h sp)]]] [] (.v (.bool (!zBE sp x))) [] := by
 obtain ⟨o, v, l⟩ := x
 simp only at hx hl ⊢
 obtain ⟨k, rfl⟩ : ∃ k : Nat, o = k := ⟨o.toNat, by omega⟩
 have h2 := zMy h sp v h0 h1
 have hk : sp.ws[k]? = some sp.ws[k] := List.getElem?_eq_getElem (by omega)
 obtain ⟨w, hw0⟩ : ∃ w, sp.ws[k] = w := ⟨_, rfl⟩
 rw [hw0] at hk
 have hg : sp.ws.getD k 0 = w := by rw [List.getD_eq_getElem?_getD, hk]; rfl
 have hi : zBE sp ((k : Int), v, l) = (!(w == 0) && (!((k : Int) == 1) || inB (-sp.val) sp.val v)) := by
  have hde : ∀ a b : Int, decide (a = b) = (a == b) := fun a b => by rw [Bool.eq_iff_iff]; simp
  simp only [zBE, Int.toNat_natCast, hde]
  rw [hg]
 rw [hi]
 obtain ⟨a, ha⟩ : ∃ a, (w == 0) = a := ⟨_, rfl⟩
 obtain ⟨b, hb⟩ : ∃ b, ((k : Int) == 1) = b := ⟨_, rfl⟩
 obtain ⟨c, hc⟩ : ∃ c, inB (-sp.val) sp.val v = c := ⟨_, rfl⟩
 rw [hc] at h2 ⊢
 rw [ha, hb]
 simp only [spF] at h2 ⊢
 refine Fn.of (fn := Tryz.f95) (by kernel_rfl) rfl (by kernel_rfl) ⟨[.agg [.v (.int .i64 (k : Int)), .v (.int .i64 v), .v (.int .i64 l)], .fad [.v (.int .i64 sp.code), .v (.int .i64 sp.mem), .v (.int .i64 sp.stack), .v (.int .i64 sp.val), .sl h 1 (zK sp.ws)], .fad [.fn 94 [.fad [.v (.int .i64 sp.code), .v (.int .i64 sp.mem), .v (.int .i64 sp.stack), .v (.int .i64 sp.val), .sl h 1 (zK sp.ws)]]], .v undef, .v undef, .v undef, .v undef, .v undef, .v undef, .v undef, .v undef, .v undef, .v undef, .v undef, .v undef, .v undef, .v undef, .v undef, .v undef, .v undef, .v undef, .v undef, .v undef], []⟩ rfl ?_
 cases a
 case true =>
  repeat' first | (with_reducible first | refine zA ?_ | refine zB ?_ | refine zI ?_) | ((with_reducible refine And.intro ?_ ?_); · exact Sq) | ((with_reducible refine zC fun KC J hJ hKC => ?_); simp (maxSteps := 9999999) only [push_cast, seval, ↓reduceIte, zo hk, ha, undef]) | ((with_reducible refine hJ _ _ ?_); clear hJ hKC KC J)
  refine zE ?_
  simp (maxSteps := 9999999) only [push_cast, seval, ↓reduceIte, show Tryz.f95.results = #[(.tmp 4)] from rfl]
  exact Lq
 cases b
 all_goals
  repeat' first | (with_reducible first | refine zA ?_ | refine zB ?_ | refine zI ?_) | ((with_reducible refine And.intro ?_ ?_); · exact Sq) | ((first | with_reducible refine zC fun KC J hJ hKC => ?_ | (refine hKC _ _ _ _ _ (zD (h2) rfl rfl rfl ?_ ?_); (· exact Lq))); simp (maxSteps := 9999999) only [push_cast, seval, ↓reduceIte, zo hk, ha, hb, undef]) | ((with_reducible refine hJ _ _ ?_); clear hJ hKC KC J)
  refine zE ?_
  simp (maxSteps := 9999999) only [push_cast, seval, ↓reduceIte, show Tryz.f95.results = #[(.tmp 4)] from rfl]
  exact Lq
def zDS (sp : Sp) (a : Int × Int) : Bool := inB (-sp.val) sp.val a.1
def zDW (sp : Sp) (x : Bool × Int × Int) : Bool := x.1 || inB (-sp.val) sp.val x.2.1
theorem zQl (h : Bool) (sp : Sp) (x : Int × Int) (h0 : 0 ≤ sp.val) (h1 : sp.val ≤ 20) : Fn Tryz.prog 99 [.agg [.v (.int .i64 x.1), .v (.int .i64 x.2)], .fad [.fn 94 [.fad (spF h sp)]]] [] (.v (.bool (!zDS sp x))) [] := by
 have h2 := zMy h sp x.1 h0 h1
 unfold zDS
 simp only [spF] at h2 ⊢
 refine Fn.of (fn := Tryz.f99) (by kernel_rfl) rfl (by kernel_rfl) ⟨[.agg [.v (.int .i64 x.1), .v (.int .i64 x.2)], .fad [.fn 94 [.fad [.v (.int .i64 sp.code), .v (.int .i64 sp.mem), .v (.int .i64 sp.stack), .v (.int .i64 sp.val), .sl h 1 (zK sp.ws)]]], .v undef, .v undef, .v undef, .v undef, .v undef, .v undef], []⟩ rfl ?_
 repeat' first | (with_reducible first | refine zA ?_ | refine zB ?_ | refine zI ?_) | ((first | with_reducible refine zC fun KC J hJ hKC => ?_ | (refine hKC _ _ _ _ _ (zD (h2) rfl rfl rfl ?_ ?_); (· exact Lq))); simp (maxSteps := 9999999) only [push_cast, seval, ↓reduceIte]) | ((with_reducible refine hJ _ _ ?_); clear hJ hKC KC J)
 refine zE ?_
 simp (maxSteps := 9999999) only [push_cast, seval, ↓reduceIte, show Tryz.f99.results = #[(.tmp 3)] from rfl]
 exact Lq
theorem zQm (h : Bool) (sp : Sp) (x : Bool × Int × Int) (h0 : 0 ≤ sp.val) (h1 : sp.val ≤ 20) : Fn Tryz.prog 101 [.agg [.v (.bool x.1), .v (.int .i64 x.2.1), .v (.int .i64 x.2.2)], .fad [.fn 94 [.fad (spF h sp)]]] [] (.v (.bool (!zDW sp x))) [] := by
 obtain ⟨r, v, l⟩ := x
 have h2 := zMy h sp v h0 h1
 simp only [zDW, spF] at h2 ⊢
 cases r
 ·refine Fn.of (fn := Tryz.f101) (by kernel_rfl) rfl (by kernel_rfl) ⟨[.agg [.v (.bool false), .v (.int .i64 v), .v (.int .i64 l)], .fad [.fn 94 [.fad [.v (.int .i64 sp.code), .v (.int .i64 sp.mem), .v (.int .i64 sp.stack), .v (.int .i64 sp.val), .sl h 1 (zK sp.ws)]]], .v undef, .v undef, .v undef, .v undef, .v undef, .v undef, .v undef, .v undef, .v undef, .v undef, .v undef], []⟩ rfl ?_
  repeat' first | (with_reducible first | refine zA ?_ | refine zB ?_ | refine zI ?_) | ((first | with_reducible refine zC fun KC J hJ hKC => ?_ | (refine hKC _ _ _ _ _ (zD (h2) rfl rfl rfl ?_ ?_); (· exact Lq))); simp (maxSteps := 9999999) only [push_cast, seval, ↓reduceIte, undef]) | ((with_reducible refine hJ _ _ ?_); clear hJ hKC KC J)
  refine zE ?_
  simp (maxSteps := 9999999) only [push_cast, seval, ↓reduceIte, show Tryz.f101.results = #[(.tmp 3)] from rfl]
  exact Lq
 ·refine Fn.of (fn := Tryz.f101) (by kernel_rfl) rfl (by kernel_rfl) ⟨[.agg [.v (.bool true), .v (.int .i64 v), .v (.int .i64 l)], .fad [.fn 94 [.fad [.v (.int .i64 sp.code), .v (.int .i64 sp.mem), .v (.int .i64 sp.stack), .v (.int .i64 sp.val), .sl h 1 (zK sp.ws)]]], .v undef, .v undef, .v undef, .v undef, .v undef, .v undef, .v undef, .v undef, .v undef, .v undef, .v undef], []⟩ rfl ?_
  repeat' first | (with_reducible first | refine zA ?_ | refine zB ?_ | refine zI ?_) | ((with_reducible refine zC fun KC J hJ hKC => ?_); simp (maxSteps := 9999999) only [push_cast, seval, ↓reduceIte, undef]) | ((with_reducible refine hJ _ _ ?_); clear hJ hKC KC J)
  refine zE ?_
  simp (maxSteps := 9999999) only [push_cast, seval, ↓reduceIte, show Tryz.f101.results = #[(.tmp 3)] from rfl]
  exact Lq
theorem zQi (n : Nat) (sp : Sp) (s : Sta) : zDE n sp s = (zEs n s && (decide ((s.code.length : Int) ≤ sp.code) && (decide ((s.mem.length : Int) ≤ sp.mem) && (decide ((s.stack.length : Int) ≤ sp.stack) && (decide (s.out.length = 0) &&
  ((!s.code.any fun x => !zBE sp x) && ((!s.mem.any fun x => !zDS sp x) && (!s.stack.any fun x => !zDW sp x)))))))) := by
 simp only [zFz]; rfl
theorem zJq {n : Nat} {x : Int × Int × Int} (h : zBR n x = true) : 0 ≤ x.1 ∧ x.1 < 13 := by
 unfold zBR at h
 split at h
 ·omega
 ·simp only [Bool.and_eq_true, zGF] at h; omega
def zSO (ns : List ByteArray) (us : List Nat) (sp : Sp) (s : Sta) : Bool := decide (zCb ns us sp = 0) && zDE us.length sp s
set_option maxHeartbeats 16000000 in
theorem zOi (f g h : Bool) (ns : List ByteArray) (us : List Nat) (sp : Sp) (s : Sta) (hs : Szs ns) (hu : U32 us) (hw : sp.ws.length ≤ 1000) (hl : Sml s) :
  Fn Tryz.prog 48 [.agg [.sl f 1 (zM ns), .sl g 1 (zL us)], .agg (spF h sp), .agg (zAN false false false false s)] [] (.tup [.v (.bool (zSO ns us sp s)), .v (.int .i64 (zCb ns us sp))]) [] := by
 have h1 := zOE f g h ns us sp hs hu hw
 unfold zSO
 obtain ⟨m, hm⟩ : ∃ m, zCb ns us sp = m := ⟨_, rfl⟩
 rw [hm] at h1 ⊢
 by_cases h0 : m = 0
 case neg =>
  have h0' : (m != 0) = true := by simpa using h0
  rw [decide_eq_false h0, Bool.false_and]
  simp only [spF, zAN] at h1 ⊢
  refine Fn.of (fn := Tryz.f48) (by kernel_rfl) rfl (by kernel_rfl) ⟨[.agg [.sl f 1 (zM ns), .sl g 1 (zL us)], .agg [.v (.int .i64 sp.code), .v (.int .i64 sp.mem), .v (.int .i64 sp.stack), .v (.int .i64 sp.val), .sl h 1 (zK sp.ws)], .agg [.v (.int .i64 s.v), .v (.int .i64 s.l), .sl false 3 (zh s.code), .sl false 2 (zR s.mem), .sl false 3 (zc s.stack), .sl false 2 (zR s.out)], .v undef, .v undef, .v undef, .v undef, .v undef, .v undef, .v undef, .v undef, .v undef, .v undef, .v undef, .v undef, .v undef, .v undef, .v undef, .v undef, .v undef, .v undef, .v undef, .v undef, .v undef, .v undef, .v undef, .v undef, .v undef, .v undef, .v undef, .v undef, .v undef, .v undef, .v undef, .v undef, .v undef, .v undef, .v undef, .v undef, .v undef, .v undef, .v undef, .v undef, .v undef, .v undef, .v undef, .v undef, .v undef, .v undef, .v undef, .v undef, .v undef, .v undef, .v undef, .v undef, .v undef, .v undef, .v undef, .v undef, .v undef, .v undef, .v undef, .v undef, .v undef, .v undef, .v undef, .v undef, .v undef, .v undef, .v undef, .v undef, .v undef, .v undef, .v undef, .v undef], []⟩ rfl ?_
  repeat' first | (with_reducible first | refine zA ?_ | refine zB ?_ | refine zS ?_ | refine zI ?_) | ((first | with_reducible refine zC fun KC J hJ hKC => ?_ | (refine hKC _ _ _ _ _ (zD (h1) rfl rfl rfl ?_ ?_); (· exact Lq))); simp (maxSteps := 9999999) only [push_cast, seval, ↓reduceIte, h0', undef]) | ((with_reducible refine hJ _ _ ?_); clear hJ hKC KC J) | ((with_reducible refine zF ?_ ?_); · rfl)
  refine zE ?_
  simp (maxSteps := 9999999) only [push_cast, seval, ↓reduceIte, show Tryz.f48.results = #[(.tmp 6), (.tmp 7)] from rfl]
  exact Lq
 subst h0
 rw [decide_eq_true rfl, Bool.true_and]
 have hok : zq ns us = 0 ∧ SpOk sp := by
  unfold zCb at hm
  split at hm
  ·rename_i hc
   split at hm
   ·rename_i hsp; exact ⟨hc, zNk.1 hsp⟩
   ·cases hm
  ·rename_i hc; exact absurd hm hc
 obtain ⟨hc, hsp⟩ := hok
 have h2 := zNA f g ns us s hs hu hc hl
 obtain ⟨l1, l2, l3, l4⟩ := hl
 have hst : zEs us.length s = true → ∀ x ∈ s.code, 0 ≤ x.1 ∧ x.1 < sp.ws.length := fun hh x hx => by
  simp only [zEs, zDL, Bool.and_eq_true, List.all_eq_true] at hh
  have := zJq (hh.1.1 x hx)
  rw [hsp.wl]; exact this
 have h3 := fun hh => zDb false s.code 95 [.fad (spF h sp), .fad [.fn 94 [.fad (spF h sp)]]] (fun x => !zBE sp x) l1 rfl (fun x hx => zRJ h sp x hsp.v0 hsp.v1 (hst hh x hx).1 (hst hh x hx).2 hw)
 have h4 := zCU false s.mem 99 [.fad [.fn 94 [.fad (spF h sp)]]] (fun x => !zDS sp x) l2 rfl (fun x _ => zQl h sp x hsp.v0 hsp.v1)
 have h5 := zDV false s.stack 101 [.fad [.fn 94 [.fad (spF h sp)]]] (fun x => !zDW sp x) l3 rfl (fun x _ => zQm h sp x hsp.v0 hsp.v1)
 rw [zQi]
 obtain ⟨c1, hc1⟩ : ∃ x, zEs us.length s = x := ⟨_, rfl⟩
 obtain ⟨d1, hd1⟩ : ∃ x, decide ((s.code.length : Int) ≤ sp.code) = x := ⟨_, rfl⟩
 obtain ⟨d2, hd2⟩ : ∃ x, decide ((s.mem.length : Int) ≤ sp.mem) = x := ⟨_, rfl⟩
 obtain ⟨d3, hd3⟩ : ∃ x, decide ((s.stack.length : Int) ≤ sp.stack) = x := ⟨_, rfl⟩
 obtain ⟨d4, hd4⟩ : ∃ x, decide (s.out.length = 0) = x := ⟨_, rfl⟩
 have hd4' : ((s.out.length : Int) == 0) = d4 := by rw [← hd4, Bool.eq_iff_iff]; simp
 obtain ⟨c3, hc3⟩ : ∃ x, (s.code.any fun x => !zBE sp x) = x := ⟨_, rfl⟩
 obtain ⟨c4, hc4⟩ : ∃ x, (s.mem.any fun x => !zDS sp x) = x := ⟨_, rfl⟩
 obtain ⟨c5, hc5⟩ : ∃ x, (s.stack.any fun x => !zDW sp x) = x := ⟨_, rfl⟩
 rw [hc1] at h2 h3 ⊢
 rw [hc3] at h3 ⊢
 rw [hc4] at h4 ⊢
 rw [hc5] at h5 ⊢
 rw [hd1, hd2, hd3, hd4]
 clear hst
 simp only [spF, zAN] at h1 h2 h3 h4 h5 ⊢
 refine Fn.of (fn := Tryz.f48) (by kernel_rfl) rfl (by kernel_rfl) ⟨[.agg [.sl f 1 (zM ns), .sl g 1 (zL us)], .agg [.v (.int .i64 sp.code), .v (.int .i64 sp.mem), .v (.int .i64 sp.stack), .v (.int .i64 sp.val), .sl h 1 (zK sp.ws)], .agg [.v (.int .i64 s.v), .v (.int .i64 s.l), .sl false 3 (zh s.code), .sl false 2 (zR s.mem), .sl false 3 (zc s.stack), .sl false 2 (zR s.out)], .v undef, .v undef, .v undef, .v undef, .v undef, .v undef, .v undef, .v undef, .v undef, .v undef, .v undef, .v undef, .v undef, .v undef, .v undef, .v undef, .v undef, .v undef, .v undef, .v undef, .v undef, .v undef, .v undef, .v undef, .v undef, .v undef, .v undef, .v undef, .v undef, .v undef, .v undef, .v undef, .v undef, .v undef, .v undef, .v undef, .v undef, .v undef, .v undef, .v undef, .v undef, .v undef, .v undef, .v undef, .v undef, .v undef, .v undef, .v undef, .v undef, .v undef, .v undef, .v undef, .v undef, .v undef, .v undef, .v undef, .v undef, .v undef, .v undef, .v undef, .v undef, .v undef, .v undef, .v undef, .v undef, .v undef, .v undef, .v undef, .v undef, .v undef, .v undef, .v undef], []⟩ rfl ?_
 cases d1
 case false =>
  cases c1
  all_goals
   repeat' first | (refine zV 4 1 rfl (by (simp (maxSteps := 9999999) only [push_cast, seval, ↓reduceIte]) <;> rfl) ?_; simp (maxSteps := 9999999) only [push_cast, seval, ↓reduceIte, zAH, zd, fr3, fr2, fr1, fr0, zl, zj, hd1, hd2, hd3, hd4', undef]) | (refine zV 5 4 rfl (by (simp (maxSteps := 9999999) only [push_cast, seval, ↓reduceIte]) <;> rfl) ?_; simp (maxSteps := 9999999) only [push_cast, seval, ↓reduceIte, zAH, zd, fr3, fr2, fr1, fr0, zl, zj, hd1, hd2, hd3, hd4', undef]) | (with_reducible first | refine zA ?_ | refine zB ?_ | refine zI ?_ | refine zJ ?_) | ((first | with_reducible refine zC fun KC J hJ hKC => ?_ | (refine hKC _ _ _ _ _ (zD (h1) rfl rfl rfl ?_ ?_); (· exact Lq)) | (refine hKC _ _ _ _ _ (zD (h2) rfl rfl rfl ?_ ?_); (· exact Lq))); simp (maxSteps := 9999999) only [push_cast, seval, ↓reduceIte, hd1, hd2, hd3, hd4', undef]) | ((with_reducible refine hJ _ _ ?_); clear hJ hKC KC J) | ((with_reducible refine zH ?_ ?_); · rfl)
   refine zE ?_
   simp (maxSteps := 9999999) only [push_cast, seval, ↓reduceIte, show Tryz.f48.results = #[(.tmp 6), (.tmp 7)] from rfl]
   exact Lq
 cases d2
 case false =>
  cases c1
  all_goals
   repeat' first | (refine zV 4 1 rfl (by (simp (maxSteps := 9999999) only [push_cast, seval, ↓reduceIte]) <;> rfl) ?_; simp (maxSteps := 9999999) only [push_cast, seval, ↓reduceIte, zAH, zd, fr3, fr2, fr1, fr0, zl, zj, hd1, hd2, hd3, hd4', undef]) | (refine zV 5 4 rfl (by (simp (maxSteps := 9999999) only [push_cast, seval, ↓reduceIte]) <;> rfl) ?_; simp (maxSteps := 9999999) only [push_cast, seval, ↓reduceIte, zAH, zd, fr3, fr2, fr1, fr0, zl, zj, hd1, hd2, hd3, hd4', undef]) | (with_reducible first | refine zA ?_ | refine zB ?_ | refine zI ?_ | refine zJ ?_) | ((first | with_reducible refine zC fun KC J hJ hKC => ?_ | (refine hKC _ _ _ _ _ (zD (h1) rfl rfl rfl ?_ ?_); (· exact Lq)) | (refine hKC _ _ _ _ _ (zD (h2) rfl rfl rfl ?_ ?_); (· exact Lq))); simp (maxSteps := 9999999) only [push_cast, seval, ↓reduceIte, hd1, hd2, hd3, hd4', undef]) | ((with_reducible refine hJ _ _ ?_); clear hJ hKC KC J) | ((with_reducible refine zH ?_ ?_); · rfl)
   refine zE ?_
   simp (maxSteps := 9999999) only [push_cast, seval, ↓reduceIte, show Tryz.f48.results = #[(.tmp 6), (.tmp 7)] from rfl]
   exact Lq
 cases d3
 case false =>
  cases c1
  all_goals
   repeat' first | (refine zV 4 1 rfl (by (simp (maxSteps := 9999999) only [push_cast, seval, ↓reduceIte]) <;> rfl) ?_; simp (maxSteps := 9999999) only [push_cast, seval, ↓reduceIte, zAH, zd, fr3, fr2, fr1, fr0, zl, zj, hd1, hd2, hd3, hd4', undef]) | (refine zV 5 4 rfl (by (simp (maxSteps := 9999999) only [push_cast, seval, ↓reduceIte]) <;> rfl) ?_; simp (maxSteps := 9999999) only [push_cast, seval, ↓reduceIte, zAH, zd, fr3, fr2, fr1, fr0, zl, zj, hd1, hd2, hd3, hd4', undef]) | (with_reducible first | refine zA ?_ | refine zB ?_ | refine zI ?_ | refine zJ ?_) | ((first | with_reducible refine zC fun KC J hJ hKC => ?_ | (refine hKC _ _ _ _ _ (zD (h1) rfl rfl rfl ?_ ?_); (· exact Lq)) | (refine hKC _ _ _ _ _ (zD (h2) rfl rfl rfl ?_ ?_); (· exact Lq))); simp (maxSteps := 9999999) only [push_cast, seval, ↓reduceIte, hd1, hd2, hd3, hd4', undef]) | ((with_reducible refine hJ _ _ ?_); clear hJ hKC KC J) | ((with_reducible refine zH ?_ ?_); · rfl)
   refine zE ?_
   simp (maxSteps := 9999999) only [push_cast, seval, ↓reduceIte, show Tryz.f48.results = #[(.tmp 6), (.tmp 7)] from rfl]
   exact Lq
 cases c1
 case false =>
  repeat' first | (refine zV 4 1 rfl (by (simp (maxSteps := 9999999) only [push_cast, seval, ↓reduceIte]) <;> rfl) ?_; simp (maxSteps := 9999999) only [push_cast, seval, ↓reduceIte, zAH, zd, fr3, fr2, fr1, fr0, zl, zj, hd1, hd2, hd3, hd4', undef]) | (refine zV 5 4 rfl (by (simp (maxSteps := 9999999) only [push_cast, seval, ↓reduceIte]) <;> rfl) ?_; simp (maxSteps := 9999999) only [push_cast, seval, ↓reduceIte, zAH, zd, fr3, fr2, fr1, fr0, zl, zj, hd1, hd2, hd3, hd4', undef]) | (with_reducible first | refine zA ?_ | refine zB ?_ | refine zI ?_ | refine zJ ?_) | ((first | with_reducible refine zC fun KC J hJ hKC => ?_ | (refine hKC _ _ _ _ _ (zD (h1) rfl rfl rfl ?_ ?_); (· exact Lq)) | (refine hKC _ _ _ _ _ (zD (h2) rfl rfl rfl ?_ ?_); (· exact Lq))); simp (maxSteps := 9999999) only [push_cast, seval, ↓reduceIte, hd1, hd2, hd3, hd4', undef]) | ((with_reducible refine hJ _ _ ?_); clear hJ hKC KC J) | ((with_reducible refine zH ?_ ?_); · rfl)
  refine zE ?_
  simp (maxSteps := 9999999) only [push_cast, seval, ↓reduceIte, show Tryz.f48.results = #[(.tmp 6), (.tmp 7)] from rfl]
  exact Lq
 have h3 := h3 rfl
 cases d4
 case false =>
  repeat' first | (refine zV 4 1 rfl (by (simp (maxSteps := 9999999) only [push_cast, seval, ↓reduceIte]) <;> rfl) ?_; simp (maxSteps := 9999999) only [push_cast, seval, ↓reduceIte, zAH, zd, fr3, fr2, fr1, fr0, zl, zj, hd1, hd2, hd3, hd4', undef]) | (refine zV 5 4 rfl (by (simp (maxSteps := 9999999) only [push_cast, seval, ↓reduceIte]) <;> rfl) ?_; simp (maxSteps := 9999999) only [push_cast, seval, ↓reduceIte, zAH, zd, fr3, fr2, fr1, fr0, zl, zj, hd1, hd2, hd3, hd4', undef]) | (with_reducible first | refine zA ?_ | refine zB ?_ | refine zI ?_ | refine zJ ?_) | ((first | with_reducible refine zC fun KC J hJ hKC => ?_ | (refine hKC _ _ _ _ _ (zD (h1) rfl rfl rfl ?_ ?_); (· exact Lq)) | (refine hKC _ _ _ _ _ (zD (h2) rfl rfl rfl ?_ ?_); (· exact Lq))); simp (maxSteps := 9999999) only [push_cast, seval, ↓reduceIte, hd1, hd2, hd3, hd4', undef]) | ((with_reducible refine hJ _ _ ?_); clear hJ hKC KC J) | ((with_reducible refine zH ?_ ?_); · rfl)
  refine zE ?_
  simp (maxSteps := 9999999) only [push_cast, seval, ↓reduceIte, show Tryz.f48.results = #[(.tmp 6), (.tmp 7)] from rfl]
  exact Lq
 cases c3
 case true =>
  repeat' first | (refine zV 4 1 rfl (by (simp (maxSteps := 9999999) only [push_cast, seval, ↓reduceIte]) <;> rfl) ?_; simp (maxSteps := 9999999) only [push_cast, seval, ↓reduceIte, zAH, zd, fr3, fr2, fr1, fr0, zl, zj, hd1, hd2, hd3, hd4', undef]) | (refine zV 5 4 rfl (by (simp (maxSteps := 9999999) only [push_cast, seval, ↓reduceIte]) <;> rfl) ?_; simp (maxSteps := 9999999) only [push_cast, seval, ↓reduceIte, zAH, zd, fr3, fr2, fr1, fr0, zl, zj, hd1, hd2, hd3, hd4', undef]) | (with_reducible first | refine zA ?_ | refine zB ?_ | refine zI ?_ | refine zJ ?_) | ((first | with_reducible refine zC fun KC J hJ hKC => ?_ | (refine hKC _ _ _ _ _ (zD (h1) rfl rfl rfl ?_ ?_); (· exact Lq)) | (refine hKC _ _ _ _ _ (zD (h2) rfl rfl rfl ?_ ?_); (· exact Lq)) | (refine hKC _ _ _ _ _ (zD (h3) rfl rfl rfl ?_ ?_); (· exact Lq))); simp (maxSteps := 9999999) only [push_cast, seval, ↓reduceIte, hd1, hd2, hd3, hd4', undef]) | ((with_reducible refine hJ _ _ ?_); clear hJ hKC KC J) | ((with_reducible refine zH ?_ ?_); · rfl)
  refine zE ?_
  simp (maxSteps := 9999999) only [push_cast, seval, ↓reduceIte, show Tryz.f48.results = #[(.tmp 6), (.tmp 7)] from rfl]
  exact Lq
 cases c4
 case true =>
  repeat' first | (refine zV 4 1 rfl (by (simp (maxSteps := 9999999) only [push_cast, seval, ↓reduceIte]) <;> rfl) ?_; simp (maxSteps := 9999999) only [push_cast, seval, ↓reduceIte, zAH, zd, fr3, fr2, fr1, fr0, zl, zj, hd1, hd2, hd3, hd4', undef]) | (refine zV 5 4 rfl (by (simp (maxSteps := 9999999) only [push_cast, seval, ↓reduceIte]) <;> rfl) ?_; simp (maxSteps := 9999999) only [push_cast, seval, ↓reduceIte, zAH, zd, fr3, fr2, fr1, fr0, zl, zj, hd1, hd2, hd3, hd4', undef]) | (with_reducible first | refine zA ?_ | refine zB ?_ | refine zI ?_ | refine zJ ?_) | ((first | with_reducible refine zC fun KC J hJ hKC => ?_ | (refine hKC _ _ _ _ _ (zD (h1) rfl rfl rfl ?_ ?_); (· exact Lq)) | (refine hKC _ _ _ _ _ (zD (h2) rfl rfl rfl ?_ ?_); (· exact Lq)) | (refine hKC _ _ _ _ _ (zD (h3) rfl rfl rfl ?_ ?_); (· exact Lq)) | (refine hKC _ _ _ _ _ (zD (h4) rfl rfl rfl ?_ ?_); (· exact Lq))); simp (maxSteps := 9999999) only [push_cast, seval, ↓reduceIte, hd1, hd2, hd3, hd4', undef]) | ((with_reducible refine hJ _ _ ?_); clear hJ hKC KC J) | ((with_reducible refine zH ?_ ?_); · rfl)
  refine zE ?_
  simp (maxSteps := 9999999) only [push_cast, seval, ↓reduceIte, show Tryz.f48.results = #[(.tmp 6), (.tmp 7)] from rfl]
  exact Lq
 repeat' first | (refine zV 4 1 rfl (by (simp (maxSteps := 9999999) only [push_cast, seval, ↓reduceIte]) <;> rfl) ?_; simp (maxSteps := 9999999) only [push_cast, seval, ↓reduceIte, zAH, zd, fr3, fr2, fr1, fr0, zl, zj, hd1, hd2, hd3, hd4', undef]) | (refine zV 5 4 rfl (by (simp (maxSteps := 9999999) only [push_cast, seval, ↓reduceIte]) <;> rfl) ?_; simp (maxSteps := 9999999) only [push_cast, seval, ↓reduceIte, zAH, zd, fr3, fr2, fr1, fr0, zl, zj, hd1, hd2, hd3, hd4', undef]) | (with_reducible first | refine zA ?_ | refine zB ?_ | refine zI ?_ | refine zJ ?_) | ((first | with_reducible refine zC fun KC J hJ hKC => ?_ | (refine hKC _ _ _ _ _ (zD (h1) rfl rfl rfl ?_ ?_); (· exact Lq)) | (refine hKC _ _ _ _ _ (zD (h2) rfl rfl rfl ?_ ?_); (· exact Lq)) | (refine hKC _ _ _ _ _ (zD (h3) rfl rfl rfl ?_ ?_); (· exact Lq)) | (refine hKC _ _ _ _ _ (zD (h4) rfl rfl rfl ?_ ?_); (· exact Lq)) | (refine hKC _ _ _ _ _ (zD (h5) rfl rfl rfl ?_ ?_); (· exact Lq))); simp (maxSteps := 9999999) only [push_cast, seval, ↓reduceIte, hd1, hd2, hd3, hd4', undef]) | ((with_reducible refine hJ _ _ ?_); clear hJ hKC KC J) | ((with_reducible refine zH ?_ ?_); · rfl)
 refine zE ?_
 simp (maxSteps := 9999999) only [push_cast, seval, ↓reduceIte, show Tryz.f48.results = #[(.tmp 6), (.tmp 7)] from rfl]
 exact Lq
theorem zGc {ns : List ByteArray} {us : List Nat} (hc : zq ns us = 0) : 1 ≤ us.length ∧ us.length ≤ 8 := by
 have := (zFZ (show zFV ns us = true by
  unfold zq at hc
  split at hc
  ·assumption
  ·cases hc)).1
 omega
theorem zNj {ns : List ByteArray} {us : List Nat} {sp : Sp} (hm : zCb ns us sp = 0) : zq ns us = 0 ∧ SpOk sp := by
 unfold zCb at hm
 split at hm
 ·rename_i hc
  split at hm
  ·rename_i hsp; exact ⟨hc, zNk.1 hsp⟩
  ·cases hm
 ·rename_i hc; exact absurd hm hc
def zRj (sp : Sp) : Sp := { sp with ws := sp.ws.take 16 }
theorem zJf {n : Nat} (hn : 1 ≤ n) {sp : Sp} {s : Sta} (h : InSp n sp s) : zOB n s = true := by
 simp only [zOB, okL, Bool.and_eq_true, Bool.not_eq_true', List.all_eq_true, List.mem_map, forall_exists_index, and_imp, forall_apply_eq_imp_iff₂]
 refine ⟨fun x hx => ?_, fun x hx => ?_, fun x hx => ?_, fun x hx => ?_, h.l⟩
 ·have := (h.c x hx).1
  unfold zBR at this
  split at this
  ·simp only [Bool.and_eq_true, Bool.not_eq_true'] at this; exact this.2
  ·simp only [Bool.and_eq_true, decide_eq_true_eq] at this
   rw [this.2.1]; simp [zn]; omega
 ·have := (h.m x hx).1
  simp only [zBL, Bool.and_eq_true, Bool.not_eq_true'] at this
  exact this.2
 ·have := (h.s x hx).1
  simp only [zCC, Bool.and_eq_true, Bool.not_eq_true'] at this
  exact this.1
 ·rw [h.out] at hx; cases hx
def zCA (ns : List ByteArray) (us : List Nat) (sp : Sp) (s : Sta) : Int := if zCb ns us sp = 0 then if zDE us.length sp s = true then 0 else 9 else zCb ns us sp
def zBa (ns : List ByteArray) (us : List Nat) (sp : Sp) (o : Int) (a b : Sta) : Int :=
 if zCb ns us sp = 0 then if zDE us.length sp a = true ∧ zDE us.length sp b = true then if zBz ns us o a b = 0 ∧ zCX us o.toNat a b = true then 0 else 9 else 9 else zCb ns us sp
def stU (ns : List ByteArray) (us : List Nat) (sp : Sp) (s : Sta) : List Int := if zCA ns us sp s = 0 then zBY sp s else []
def vaU (ns : List ByteArray) (us : List Nat) (sp : Sp) (o : Int) (a b : Sta) : List Int := if zBa ns us sp o a b = 0 then zAa sp us o.toNat a b else []
def paU (ns : List ByteArray) (us : List Nat) (sp : Sp) (o : Int) (a b : Sta) : List Int := if zBa ns us sp o a b = 0 then zBY sp a ++ zAa sp us o.toNat a b else []
structure Two (ns : List ByteArray) (us : List Nat) (sp : Sp) (o : Int) (a b : Sta) : Prop where
 may : zCb ns us sp = 0
 ia : zDE us.length sp a = true
 ib : zDE us.length sp b = true
 ok : zBz ns us o a b = 0
 al : zCX us o.toNat a b = true
theorem zIM {ns : List ByteArray} {us : List Nat} {sp : Sp} {o : Int} {a b : Sta} : zBa ns us sp o a b = 0 ↔ Two ns us sp o a b := by
 unfold zBa
 constructor
 ·intro h
  split at h
  ·rename_i h1
   split at h
   ·rename_i h2
    split at h
    ·rename_i h3; exact ⟨h1, h2.1, h2.2, h3.1, h3.2⟩
    ·cases h
   ·cases h
  ·rename_i h1; exact absurd h h1
 ·rintro ⟨h1, h2, h3, h4, h5⟩
  rw [if_pos h1, if_pos ⟨h2, h3⟩, if_pos ⟨h4, h5⟩]
theorem zQM {ns : List ByteArray} {us : List Nat} {sp : Sp} {s : Sta} : zCA ns us sp s = 0 ↔ zCb ns us sp = 0 ∧ zDE us.length sp s = true := by
 unfold zCA
 constructor
 ·intro h
  split at h
  ·rename_i h1
   split at h
   ·rename_i h2; exact ⟨h1, h2⟩
   ·cases h
  ·rename_i h1; exact absurd h h1
 ·rintro ⟨h1, h2⟩
  rw [if_pos h1, if_pos h2]
def zDM (l : List Sta) : List (List D) := l.map (zAN false false false false)
@[push_cast] theorem zQf (l : List Sta) : (zDM l).length = l.length := by simp [zDM]
theorem zQV {l : List Sta} {n : Nat} {x : Sta} (h : l[n]? = some x) : zEt (zDM l) n = zAN false false false false x := by unfold zDM; exact zBe _ _ _ _ h
def zDD (ns : List ByteArray) (us : List Nat) (sp : Sp) : List Sta → Int
 | [] => 0
 | s :: r => if zCA ns us sp s = 0 then zDD ns us sp r else zCA ns us sp s
theorem zGX {ns : List ByteArray} {us : List Nat} {sp : Sp} : ∀ {l : List Sta} {i : Nat}, (∀ j s, j < i → l[j]? = some s → zCA ns us sp s = 0) → zDD ns us sp l = zDD ns us sp (l.drop i)
 | [], i, _ => by rw [List.drop_nil]
 | s :: r, 0, _ => rfl
 | s :: r, i + 1, h => by
  rw [List.drop_succ_cons, zDD, if_pos (h 0 s (by omega) rfl)]
  exact zGX fun j x hj hx => h (j + 1) x (by omega) (by simpa using hx)
theorem zNd (f g fl : Bool) (ns : List ByteArray) (us : List Nat) (sp : Sp) (l : List Sta) (hs : Szs ns) (hu : U32 us) (hw : sp.ws.length ≤ 1000) (hl : ∀ s ∈ l, Sml s) (hn : l.length ≤ 1000) :
  Fn Tryz.prog 77 [.agg [.sl f 1 (zM ns), .sl g 1 (zL us)], .agg (spF false sp), .sl fl 6 (zDM l)] [] (.v (.int .i64 (zDD ns us sp l))) [] := by
 simp only [spF]
 refine Fn.of (fn := Tryz.f77) (by kernel_rfl) rfl (by kernel_rfl) ⟨[.agg [.sl f 1 (zM ns), .sl g 1 (zL us)], .agg [.v (.int .i64 sp.code), .v (.int .i64 sp.mem), .v (.int .i64 sp.stack), .v (.int .i64 sp.val), .sl false 1 (zK sp.ws)], .sl fl 6 (zDM l), .v undef, .v undef, .v undef, .v undef, .v undef, .v undef, .v undef, .v undef, .v undef, .v undef, .v undef, .v undef, .v undef, .v undef, .v undef, .v undef, .v undef, .v undef, .v undef, .v undef, .v undef, .v undef, .v undef, .v undef, .v undef, .v undef, .v undef], []⟩ rfl ?_
 repeat' first | (with_reducible first | refine zA ?_ | refine zB ?_ | refine zG ?_) | ((with_reducible refine zC fun KC J hJ hKC => ?_); simp (maxSteps := 9999999) only [push_cast, seval, ↓reduceIte]) | ((with_reducible refine hJ _ _ ?_); clear hJ hKC KC J)
 refine zi 2 (γ := {i : Nat // i ≤ l.length ∧ ∀ j s, j < i → l[j]? = some s → zCA ns us sp s = 0}) (fun i => ⟨[.any, .any, .any, .ptr 0 0 0, .ptr 1 0 0, .any, .v (.int .i64 0), .any, .any, .any, .any, .sl fl 6 (zDM l), .v (.int .i64 l.length), .v (.int .i64 i.1), .any, .any, .any, .any, .any, .any, .any, .any, .any, .any, .any, .any, .any, .any, .any, .any], [.ent ⟨0, none, 25, [.sl f 1 (zM ns), .sl g 1 (zL us)], .cells⟩, .ent ⟨0, none, 28, [.v (.int .i64 sp.code), .v (.int .i64 sp.mem), .v (.int .i64 sp.stack), .v (.int .i64 sp.val), .sl false 1 (zK sp.ws)], .cells⟩]⟩) (fun i => l.length - i.1) ⟨0, by omega, fun j s hj => by omega⟩ (fun i => rfl) (fun i => zr rfl) (fun i => rfl) ⟨?_, Fq⟩ ?_
 ·exact Lq
 rintro ⟨i, hi, hz⟩
 by_cases hlt : (i : Int) < (l.length : Int)
 ·have hx : l[i]? = some l[i] := List.getElem?_eq_getElem (by omega)
  obtain ⟨s, hs0⟩ : ∃ s, l[i] = s := ⟨_, rfl⟩
  rw [hs0] at hx
  have hsm := hl s (List.mem_of_getElem? hx)
  have h1 := zOi f g false ns us sp s hs hu hw hsm
  have hge := zQV hx
  have hres : ¬ zCA ns us sp s = 0 → zDD ns us sp l = zCA ns us sp s := fun h => by
   have hdl := List.drop_eq_getElem_cons (i := i) (l := l) (by omega)
   rw [zGX hz, hdl, hs0, zDD, if_neg h]
  unfold zSO at h1
  obtain ⟨m, hm⟩ : ∃ m, zCb ns us sp = m := ⟨_, rfl⟩
  obtain ⟨b, hb⟩ : ∃ b, zDE us.length sp s = b := ⟨_, rfl⟩
  have hms : zCA ns us sp s = if m = 0 then if b = true then 0 else 9 else m := by unfold zCA; rw [hm, hb]
  rw [hm, hb] at h1
  simp only [zAN, spF] at hge h1
  by_cases h0 : m = 0
  ·subst h0
   rw [decide_eq_true rfl, Bool.true_and] at h1
   rw [if_pos rfl] at hms
   cases b
   ·rw [if_neg (by simp)] at hms
    rw [hres (by rw [hms]; decide), hms]
    repeat' first | (with_reducible first | refine zA ?_ | refine zB ?_ | refine zS ?_ | refine zg ?_ | refine zI ?_ | refine zJ ?_ | refine zG ?_) | ((with_reducible refine And.intro ?_ ?_); · exact Sq) | ((first | with_reducible refine zC fun KC J hJ hKC => ?_ | (refine hKC _ _ _ _ _ (zD (h1) rfl rfl rfl ?_ ?_); (· exact Lq))); simp (maxSteps := 9999999) only [push_cast, seval, ↓reduceIte, hlt, hge, bne_self_eq_false]) | ((with_reducible refine hJ _ _ ?_); clear hJ hKC KC J) | ((with_reducible refine zF ?_ ?_); · rfl) | ((with_reducible refine zH ?_ ?_); · rfl)
    refine zE ?_
    simp (maxSteps := 9999999) only [push_cast, seval, ↓reduceIte, show Tryz.f77.results = #[(.tmp 6)] from rfl]
    exact Lq
   ·rw [if_pos rfl] at hms
    repeat' first | (with_reducible first | refine zA ?_ | refine zB ?_ | refine zO ?_ | refine zJ ?_ | refine zG ?_) | ((with_reducible refine And.intro ?_ ?_); · exact Sq) | ((first | with_reducible refine zC fun KC J hJ hKC => ?_ | (refine hKC _ _ _ _ _ (zD (h1) rfl rfl rfl ?_ ?_); (· exact Lq))); simp (maxSteps := 9999999) only [push_cast, seval, ↓reduceIte, hlt, hge, bne_self_eq_false, zb (i := i) (n := l.length) (by omega) (by omega)]) | ((with_reducible refine hJ _ _ ?_); clear hJ hKC KC J) | ((with_reducible refine zF ?_ ?_); · rfl) | ((with_reducible refine zH ?_ ?_); · rfl)
    refine ⟨⟨i + 1, by omega, fun j x hj hjx => ?_⟩, by simp only; omega, ?_, ⟨_, rfl⟩⟩
    ·by_cases hji : j = i
     ·subst hji; rw [hx] at hjx; cases hjx; exact hms
     ·exact hz j x (by omega) hjx
    ·exact Lq
  ·have h0' : (m != 0) = true := by simpa using h0
   rw [if_neg h0] at hms
   rw [hres (by rw [hms]; exact h0), hms]
   repeat' first | (with_reducible first | refine zA ?_ | refine zB ?_ | refine zS ?_ | refine zg ?_ | refine zI ?_ | refine zJ ?_ | refine zG ?_) | ((with_reducible refine And.intro ?_ ?_); · exact Sq) | ((first | with_reducible refine zC fun KC J hJ hKC => ?_ | (refine hKC _ _ _ _ _ (zD (h1) rfl rfl rfl ?_ ?_); (· exact Lq))); simp (maxSteps := 9999999) only [push_cast, seval, ↓reduceIte, hlt, hge, h0']) | ((with_reducible refine hJ _ _ ?_); clear hJ hKC KC J) | ((with_reducible refine zF ?_ ?_); · rfl)
   refine zE ?_
   simp (maxSteps := 9999999) only [push_cast, seval, ↓reduceIte, show Tryz.f77.results = #[(.tmp 6)] from rfl]
   exact Lq
 ·have hin : i = l.length := by omega
  have hres : zDD ns us sp l = 0 := by rw [zGX hz, hin, List.drop_length]; rfl
  rw [hres]
  repeat' first | (with_reducible first | refine zA ?_ | refine zB ?_ | refine zX ?_ | refine zW ?_ | refine zI ?_ | refine zQ ?_) | ((with_reducible refine zC fun KC J hJ hKC => ?_); simp (maxSteps := 9999999) only [push_cast, seval, ↓reduceIte, hlt]) | ((with_reducible refine hJ _ _ ?_); clear hJ hKC KC J) | ((with_reducible refine zH ?_ ?_); · rfl)
  refine zE ?_
  simp (maxSteps := 9999999) only [push_cast, seval, ↓reduceIte, show Tryz.f77.results = #[(.tmp 6)] from rfl]
  exact Lq
theorem zQP (ns : List ByteArray) (us : List Nat) (sp : Sp) (s : Sta) : zDD ns us sp [s] = zCA ns us sp s := by
 simp only [zDD]
 split
 ·rename_i h; exact h.symm
 ·rfl
theorem zLD (f g : Bool) (ns : List ByteArray) (us : List Nat) (sp : Sp) (o : Int) (a b : Sta) (hs : Szs ns) (hu : U32 us) (hw : sp.ws.length ≤ 1000) (ha : Sml15 a) (hb : Sml15 b) :
  Fn Tryz.prog 79 [.agg [.sl false 1 (zM ns), .sl false 1 (zL us)], .agg (spF false sp), .v (.int .i64 o), .agg (zAN false false false false a), .agg (zAN false false false false b)] [] (.v (.int .i64 (zBa ns us sp o a b))) [] := by
 have h1 := zNd false false true ns us sp [a, b] hs hu hw (by intro s hs; simp at hs; rcases hs with rfl | rfl; exact ha.sml; exact hb.sml) (by simp)
 have h2 := zKb ns us o a b hs hu ha hb
 obtain ⟨m, hm⟩ : ∃ m, zDD ns us sp [a, b] = m := ⟨_, rfl⟩
 have hbo : zBa ns us sp o a b = if m = 0 then if zBz ns us o a b = 0 ∧ zCX us o.toNat a b = true then 0 else 9 else m := by
  rw [← hm]
  by_cases h0 : zCb ns us sp = 0
  ·by_cases x1 : zDE us.length sp a = true
   ·have e1 : zCA ns us sp a = 0 := by unfold zCA; rw [if_pos h0, if_pos x1]
    by_cases x2 : zDE us.length sp b = true
    ·have e2 : zCA ns us sp b = 0 := by unfold zCA; rw [if_pos h0, if_pos x2]
     have e3 : zDD ns us sp [a, b] = 0 := by unfold zDD zDD zDD; rw [if_pos e1, if_pos e2]
     unfold zBa
     rw [e3, if_pos h0, if_pos ⟨x1, x2⟩, if_pos rfl]
    ·have e2 : zCA ns us sp b = 9 := by unfold zCA; rw [if_pos h0, if_neg x2]
     have e3 : zDD ns us sp [a, b] = 9 := by unfold zDD zDD; rw [if_pos e1, if_neg (by rw [e2]; decide), e2]
     unfold zBa
     rw [e3, if_pos h0, if_neg (fun h => x2 h.2)]
     rfl
   ·have e1 : zCA ns us sp a = 9 := by unfold zCA; rw [if_pos h0, if_neg x1]
    have e3 : zDD ns us sp [a, b] = 9 := by unfold zDD; rw [if_neg (by rw [e1]; decide), e1]
    unfold zBa
    rw [e3, if_pos h0, if_neg (fun h => x1 h.1)]
    rfl
  ·have e1 : zCA ns us sp a = zCb ns us sp := by unfold zCA; rw [if_neg h0]
   have e3 : zDD ns us sp [a, b] = zCb ns us sp := by unfold zDD; rw [if_neg (by rw [e1]; exact h0), e1]
   unfold zBa
   rw [e3, if_neg h0, if_neg h0]
 rw [hbo]
 rw [hm] at h1
 obtain ⟨e, he⟩ : ∃ e, zBz ns us o a b = e := ⟨_, rfl⟩
 obtain ⟨t, ht⟩ : ∃ t, zCX us o.toNat a b = t := ⟨_, rfl⟩
 rw [he, ht] at h2 ⊢
 simp only [zDM, List.map_cons, List.map_nil, zAN, spF] at h1 h2 ⊢
 refine Fn.of (fn := Tryz.f79) (by kernel_rfl) rfl (by kernel_rfl) ⟨[.agg [.sl false 1 (zM ns), .sl false 1 (zL us)], .agg [.v (.int .i64 sp.code), .v (.int .i64 sp.mem), .v (.int .i64 sp.stack), .v (.int .i64 sp.val), .sl false 1 (zK sp.ws)], .v (.int .i64 o), .agg [.v (.int .i64 a.v), .v (.int .i64 a.l), .sl false 3 (zh a.code), .sl false 2 (zR a.mem), .sl false 3 (zc a.stack), .sl false 2 (zR a.out)], .agg [.v (.int .i64 b.v), .v (.int .i64 b.l), .sl false 3 (zh b.code), .sl false 2 (zR b.mem), .sl false 3 (zc b.stack), .sl false 2 (zR b.out)], .v undef, .v undef, .v undef, .v undef, .v undef, .v undef, .v undef, .v undef, .v undef, .v undef, .v undef, .v undef, .v undef, .v undef, .v undef, .v undef, .v undef, .v undef, .v undef, .v undef, .v undef, .v undef, .v undef, .v undef, .v undef, .v undef, .v undef, .v undef, .v undef, .v undef, .v undef, .v undef], []⟩ rfl ?_
 by_cases h0 : m = 0
 ·subst h0
  rw [if_pos rfl]
  by_cases e0 : e = 0
  ·subst e0
   rw [decide_eq_true rfl, Bool.true_and] at h2
   cases t
   ·rw [if_neg (by simp)]
    repeat' first | (with_reducible first | refine zA ?_ | refine zB ?_ | refine zS ?_ | refine zI ?_ | refine zJ ?_) | ((first | with_reducible refine zC fun KC J hJ hKC => ?_ | (refine hKC _ _ _ _ _ (zD (h1) rfl rfl rfl ?_ ?_); (· exact Lq)) | (refine hKC _ _ _ _ _ (zD (h2) rfl rfl rfl ?_ ?_); (· exact Lq))); simp (maxSteps := 9999999) only [push_cast, seval, ↓reduceIte, bne_self_eq_false, undef]) | ((with_reducible refine hJ _ _ ?_); clear hJ hKC KC J) | ((with_reducible refine zF ?_ ?_); · rfl) | ((with_reducible refine zH ?_ ?_); · rfl)
    refine zE ?_
    simp (maxSteps := 9999999) only [push_cast, seval, ↓reduceIte, show Tryz.f79.results = #[(.tmp 10)] from rfl]
    exact Lq
   ·rw [if_pos ⟨rfl, rfl⟩]
    repeat' first | (with_reducible first | refine zA ?_ | refine zB ?_ | refine zI ?_ | refine zJ ?_) | ((first | with_reducible refine zC fun KC J hJ hKC => ?_ | (refine hKC _ _ _ _ _ (zD (h1) rfl rfl rfl ?_ ?_); (· exact Lq)) | (refine hKC _ _ _ _ _ (zD (h2) rfl rfl rfl ?_ ?_); (· exact Lq))); simp (maxSteps := 9999999) only [push_cast, seval, ↓reduceIte, bne_self_eq_false, undef]) | ((with_reducible refine hJ _ _ ?_); clear hJ hKC KC J) | ((with_reducible refine zH ?_ ?_); · rfl)
    refine zE ?_
    simp (maxSteps := 9999999) only [push_cast, seval, ↓reduceIte, show Tryz.f79.results = #[(.tmp 10)] from rfl]
    exact Lq
  ·have e0' : (e != 0) = true := by simpa using e0
   rw [decide_eq_false e0, Bool.false_and] at h2
   rw [if_neg (fun h => e0 h.1)]
   repeat' first | (with_reducible first | refine zA ?_ | refine zB ?_ | refine zS ?_ | refine zI ?_ | refine zJ ?_) | ((first | with_reducible refine zC fun KC J hJ hKC => ?_ | (refine hKC _ _ _ _ _ (zD (h1) rfl rfl rfl ?_ ?_); (· exact Lq)) | (refine hKC _ _ _ _ _ (zD (h2) rfl rfl rfl ?_ ?_); (· exact Lq))); simp (maxSteps := 9999999) only [push_cast, seval, ↓reduceIte, bne_self_eq_false, e0', undef]) | ((with_reducible refine hJ _ _ ?_); clear hJ hKC KC J) | ((with_reducible refine zF ?_ ?_); · rfl) | ((with_reducible refine zH ?_ ?_); · rfl)
   refine zE ?_
   simp (maxSteps := 9999999) only [push_cast, seval, ↓reduceIte, show Tryz.f79.results = #[(.tmp 10)] from rfl]
   exact Lq
 ·have h0' : (m != 0) = true := by simpa using h0
  rw [if_neg h0]
  repeat' first | (with_reducible first | refine zA ?_ | refine zB ?_ | refine zS ?_ | refine zI ?_) | ((first | with_reducible refine zC fun KC J hJ hKC => ?_ | (refine hKC _ _ _ _ _ (zD (h1) rfl rfl rfl ?_ ?_); (· exact Lq))); simp (maxSteps := 9999999) only [push_cast, seval, ↓reduceIte, h0']) | ((with_reducible refine hJ _ _ ?_); clear hJ hKC KC J) | ((with_reducible refine zF ?_ ?_); · rfl)
  refine zE ?_
  simp (maxSteps := 9999999) only [push_cast, seval, ↓reduceIte, show Tryz.f79.results = #[(.tmp 10)] from rfl]
  exact Lq
theorem zFP (sp : Sp) {s : Sta} (h : Sml15 s) : (zBY sp s).length ≤ 140 := by
 have h1 := zAG (zGD sp) s.code
 have h2 := zAG (zEK sp) s.mem
 have h3 := zAG (zET sp) s.stack
 have h4 := h.code
 have h5 := h.mem
 have h6 := h.stack
 simp only [zBY, List.length_append, List.length_cons, List.length_nil]
 omega
theorem zGs (sp : Sp) (us : List Nat) (o : Nat) (a : Sta) {b : Sta} (h : Sml15 b) : (zAa sp us o a b).length ≤ 190 := by
 have h1 := zAG (zIH sp us o) b.code
 have h2 := zAG (zHg sp us o) b.mem
 have h3 := zAG (zDw sp us o) b.stack
 have h3' := zAG (zDw sp us o) (zAV us o b.stack)
 have h7 := zAG (zEE sp) (b.stack.drop (zAV us o b.stack).length)
 have h8 : (zAV us o b.stack).length ≤ b.stack.length := by unfold zAV; rw [List.length_take]; omega
 have h4 := h.code
 have h5 := h.mem
 have h6 := h.stack
 rw [List.length_drop] at h7
 unfold zAa
 split
 ·simp only [List.length_append, List.length_cons, List.length_nil]
  omega
 ·simp only [List.length_append]
  omega
theorem zFG (sp : Sp) (s : Sta) : 0 < (zBY sp s).length := by simp [zBY]
theorem zGh (f g : Bool) (ns : List ByteArray) (us : List Nat) (sp : Sp) (s : Sta) (hs : Szs ns) (hu : U32 us) (hw : sp.ws.length ≤ 1000) (hl : Sml15 s) :
  Fn Tryz.prog 35 [.agg [.sl f 1 (zM ns), .sl g 1 (zL us)], .agg (spF false sp), .agg (zAN false false false false s)] [] (.tup [.sl false 1 (zK (stU ns us sp s)), .v (.int .i64 (zCA ns us sp s))]) [] := by
 have h1 := zNd f g true ns us sp [s] hs hu hw (by intro x hx; simp at hx; subst hx; exact hl.sml) (by simp)
 rw [zQP] at h1
 unfold stU
 obtain ⟨m, hm⟩ : ∃ m, zCA ns us sp s = m := ⟨_, rfl⟩
 rw [hm] at h1 ⊢
 by_cases h0 : m = 0
 ·subst h0
  have k := zOU ⟨f, g, ns, us, sp, 0⟩ false false false false s hw (by have := hl.code; omega) (by have := hl.mem; omega) (by have := hl.stack; omega)
  have hpos := zFG sp s
  rw [if_pos rfl]
  obtain ⟨L, hL⟩ : ∃ L, zBY sp s = L := ⟨_, rfl⟩
  rw [hL] at k hpos ⊢
  obtain ⟨j, hj⟩ : ∃ j, L.length = j + 1 := ⟨L.length - 1, by omega⟩
  simp only [zDM, List.map_cons, List.map_nil, zAN, spF] at h1 k ⊢
  refine Fn.of (fn := Tryz.f35) (by kernel_rfl) rfl (by kernel_rfl) ⟨[.agg [.sl f 1 (zM ns), .sl g 1 (zL us)], .agg [.v (.int .i64 sp.code), .v (.int .i64 sp.mem), .v (.int .i64 sp.stack), .v (.int .i64 sp.val), .sl false 1 (zK sp.ws)], .agg [.v (.int .i64 s.v), .v (.int .i64 s.l), .sl false 3 (zh s.code), .sl false 2 (zR s.mem), .sl false 3 (zc s.stack), .sl false 2 (zR s.out)], .v undef, .v undef, .v undef, .v undef, .v undef, .v undef, .v undef, .v undef, .v undef, .v undef, .v undef, .v undef, .v undef, .v undef, .v undef, .v undef, .v undef, .v undef, .v undef, .v undef, .v undef, .v undef, .v undef, .v undef, .v undef, .v undef], []⟩ rfl ?_
  simp only [mkP] at k
  rw [zEc hj, hj, zHM] at k
  have hlC : (zY L).length = j + 1 := by rw [zZ, hj]
  have hcp : zBF 1 (j + 1) (zY L) = zK L := by rw [← hj]; exact zBn L
  have hbq : Nat.beq j j = true := Nat.beq_refl j
  repeat' first | (with_reducible first | refine zA ?_ | refine zB ?_ | refine zJ ?_) | ((first | with_reducible refine zC fun KC J hJ hKC => ?_ | (refine hKC _ _ _ _ _ (zw [5, 3] k rfl rfl rfl (by decide) (by simp) rfl rfl Lq ?_)) | (refine hKC _ _ _ _ _ (zD (h1) rfl rfl rfl ?_ ?_); (· exact Lq))); simp (maxSteps := 9999999) only [push_cast, seval, ↓reduceIte, bne_self_eq_false, zy, zf, zT, pick, mOf, idx, ren, ren2, ren1, ren0, zAL]) | ((with_reducible refine hJ _ _ ?_); clear hJ hKC KC J) | ((with_reducible refine zH ?_ ?_); · rfl)
  refine zt 3 rfl (by simp (maxSteps := 9999999) only [push_cast, seval, ↓reduceIte]) ?_
  simp (maxSteps := 9999999) only [push_cast, seval, ↓reduceIte, zAH, zd, fr3, fr2, fr1, fr0, zl, zj, hbq, hlC, hcp]
  refine zI ?_
  refine zE ?_
  simp (maxSteps := 9999999) only [push_cast, seval, ↓reduceIte, show Tryz.f35.results = #[(.tmp 6), (.tmp 7)] from rfl]
  exact Lq
 ·have h0' : (m != 0) = true := by simpa using h0
  rw [if_neg h0]
  simp only [zDM, List.map_cons, List.map_nil, zAN, spF] at h1 ⊢
  refine Fn.of (fn := Tryz.f35) (by kernel_rfl) rfl (by kernel_rfl) ⟨[.agg [.sl f 1 (zM ns), .sl g 1 (zL us)], .agg [.v (.int .i64 sp.code), .v (.int .i64 sp.mem), .v (.int .i64 sp.stack), .v (.int .i64 sp.val), .sl false 1 (zK sp.ws)], .agg [.v (.int .i64 s.v), .v (.int .i64 s.l), .sl false 3 (zh s.code), .sl false 2 (zR s.mem), .sl false 3 (zc s.stack), .sl false 2 (zR s.out)], .v undef, .v undef, .v undef, .v undef, .v undef, .v undef, .v undef, .v undef, .v undef, .v undef, .v undef, .v undef, .v undef, .v undef, .v undef, .v undef, .v undef, .v undef, .v undef, .v undef, .v undef, .v undef, .v undef, .v undef, .v undef, .v undef], []⟩ rfl ?_
  repeat' first | (with_reducible first | refine zA ?_ | refine zB ?_ | refine zS ?_ | refine zI ?_) | ((first | with_reducible refine zC fun KC J hJ hKC => ?_ | (refine hKC _ _ _ _ _ (zD (h1) rfl rfl rfl ?_ ?_); (· exact Lq))); simp (maxSteps := 9999999) only [push_cast, seval, ↓reduceIte, h0']) | ((with_reducible refine hJ _ _ ?_); clear hJ hKC KC J) | ((with_reducible refine zF ?_ ?_); · rfl)
  refine zE ?_
  simp (maxSteps := 9999999) only [push_cast, seval, ↓reduceIte, show Tryz.f35.results = #[(.tmp 6), (.tmp 7)] from rfl]
  exact Lq
theorem zHq (ns : List ByteArray) (us : List Nat) (sp : Sp) (o : Int) (a b : Sta) (hs : Szs ns) (hu : U32 us) (hw : sp.ws.length ≤ 1000) (ha : Sml15 a) (hb : Sml15 b) :
  Fn Tryz.prog 36 [.agg [.sl false 1 (zM ns), .sl false 1 (zL us)], .agg (spF false sp), .v (.int .i64 o), .agg (zAN false false false false a), .agg (zAN false false false false b)] [] (.tup [.sl false 1 (zK (vaU ns us sp o a b)), .v (.int .i64 (zBa ns us sp o a b))]) [] := by
 have h1 := zLD false false ns us sp o a b hs hu hw ha hb
 unfold vaU
 by_cases h0 : zBa ns us sp o a b = 0
 ·rw [if_pos h0]
  rw [h0] at h1 ⊢
  obtain ⟨hm, hia, hib, hok, hal⟩ := zIM.1 h0
  have ok := zHc hok
  obtain ⟨O, rfl, hO⟩ := zAP ok.ob
  rw [Int.toNat_natCast]
  have hul := zGc ok.chk
  have k := zML ⟨false, false, ns, us, sp, O⟩ ⟨hs, hu, ok.chk, hO⟩ (by simp only; omega) false false false false false false false false a b ⟨by have := hb.code; omega, by have := hb.mem; omega, by have := hb.stack; omega, fun x hx _ => ok.cb x hx, ok.mb, ok.sb, ok.la, ok.lb⟩
  obtain ⟨L, hL⟩ : ∃ L, zAa sp us O a b = L := ⟨_, rfl⟩
  simp only [hL] at k ⊢
  simp only [zAN, spF] at h1 k ⊢
  cases hj : L.length with
  | zero =>
   have hL0 := List.length_eq_zero_iff.1 hj
   subst hL0
   simp only [mkP, zIV] at k
   rw [List.length_nil, zNT] at k
   refine Fn.of (fn := Tryz.f36) (by kernel_rfl) rfl (by kernel_rfl) ⟨[.agg [.sl false 1 (zM ns), .sl false 1 (zL us)], .agg [.v (.int .i64 sp.code), .v (.int .i64 sp.mem), .v (.int .i64 sp.stack), .v (.int .i64 sp.val), .sl false 1 (zK sp.ws)], .v (.int .i64 (O : Int)), .agg [.v (.int .i64 a.v), .v (.int .i64 a.l), .sl false 3 (zh a.code), .sl false 2 (zR a.mem), .sl false 3 (zc a.stack), .sl false 2 (zR a.out)], .agg [.v (.int .i64 b.v), .v (.int .i64 b.l), .sl false 3 (zh b.code), .sl false 2 (zR b.mem), .sl false 3 (zc b.stack), .sl false 2 (zR b.out)], .v undef, .v undef, .v undef, .v undef, .v undef, .v undef, .v undef, .v undef, .v undef, .v undef, .v undef, .v undef, .v undef, .v undef, .v undef, .v undef, .v undef, .v undef, .v undef, .v undef, .v undef, .v undef, .v undef, .v undef, .v undef, .v undef, .v undef, .v undef, .v undef, .v undef, .v undef], []⟩ rfl ?_
   repeat' first | (with_reducible first | refine zA ?_ | refine zB ?_ | refine zI ?_ | refine zJ ?_) | ((first | with_reducible refine zC fun KC J hJ hKC => ?_ | (refine hKC _ _ _ _ _ (zw [5, 4] k rfl rfl rfl (by decide) (by simp) rfl rfl Lq ?_)) | (refine hKC _ _ _ _ _ (zD (h1) rfl rfl rfl ?_ ?_); (· exact Lq))); simp (maxSteps := 9999999) only [push_cast, seval, ↓reduceIte, bne_self_eq_false, zy, zf, zT, pick, mOf, idx, ren, ren2, ren1, ren0, zAL]) | ((with_reducible refine hJ _ _ ?_); clear hJ hKC KC J) | ((with_reducible refine zH ?_ ?_); · rfl)
   refine zE ?_
   simp (maxSteps := 9999999) only [push_cast, seval, ↓reduceIte, show Tryz.f36.results = #[(.tmp 10), (.tmp 11)] from rfl]
   exact Lq
  | succ j =>
   simp only [mkP] at k
   rw [zEc hj, hj, zHM] at k
   have hlC : (zY L).length = j + 1 := by rw [zZ, hj]
   have hcp : zBF 1 (j + 1) (zY L) = zK L := by rw [← hj]; exact zBn L
   have hbq : Nat.beq j j = true := Nat.beq_refl j
   refine Fn.of (fn := Tryz.f36) (by kernel_rfl) rfl (by kernel_rfl) ⟨[.agg [.sl false 1 (zM ns), .sl false 1 (zL us)], .agg [.v (.int .i64 sp.code), .v (.int .i64 sp.mem), .v (.int .i64 sp.stack), .v (.int .i64 sp.val), .sl false 1 (zK sp.ws)], .v (.int .i64 (O : Int)), .agg [.v (.int .i64 a.v), .v (.int .i64 a.l), .sl false 3 (zh a.code), .sl false 2 (zR a.mem), .sl false 3 (zc a.stack), .sl false 2 (zR a.out)], .agg [.v (.int .i64 b.v), .v (.int .i64 b.l), .sl false 3 (zh b.code), .sl false 2 (zR b.mem), .sl false 3 (zc b.stack), .sl false 2 (zR b.out)], .v undef, .v undef, .v undef, .v undef, .v undef, .v undef, .v undef, .v undef, .v undef, .v undef, .v undef, .v undef, .v undef, .v undef, .v undef, .v undef, .v undef, .v undef, .v undef, .v undef, .v undef, .v undef, .v undef, .v undef, .v undef, .v undef, .v undef, .v undef, .v undef, .v undef, .v undef], []⟩ rfl ?_
   repeat' first | (with_reducible first | refine zA ?_ | refine zB ?_ | refine zJ ?_) | ((first | with_reducible refine zC fun KC J hJ hKC => ?_ | (refine hKC _ _ _ _ _ (zw [5, 4] k rfl rfl rfl (by decide) (by simp) rfl rfl Lq ?_)) | (refine hKC _ _ _ _ _ (zD (h1) rfl rfl rfl ?_ ?_); (· exact Lq))); simp (maxSteps := 9999999) only [push_cast, seval, ↓reduceIte, bne_self_eq_false, zy, zf, zT, pick, mOf, idx, ren, ren2, ren1, ren0, zAL]) | ((with_reducible refine hJ _ _ ?_); clear hJ hKC KC J) | ((with_reducible refine zH ?_ ?_); · rfl)
   refine zt 4 rfl (by simp (maxSteps := 9999999) only [push_cast, seval, ↓reduceIte]) ?_
   simp (maxSteps := 9999999) only [push_cast, seval, ↓reduceIte, zAH, zd, fr3, fr2, fr1, fr0, zl, zj, hbq, hlC, hcp]
   refine zI ?_
   refine zE ?_
   simp (maxSteps := 9999999) only [push_cast, seval, ↓reduceIte, show Tryz.f36.results = #[(.tmp 10), (.tmp 11)] from rfl]
   exact Lq
 ·rw [if_neg h0]
  obtain ⟨e, he⟩ : ∃ e, zBa ns us sp o a b = e := ⟨_, rfl⟩
  rw [he] at h0 h1 ⊢
  have h0' : (e != 0) = true := by simpa using h0
  simp only [zAN, spF] at h1 ⊢
  refine Fn.of (fn := Tryz.f36) (by kernel_rfl) rfl (by kernel_rfl) ⟨[.agg [.sl false 1 (zM ns), .sl false 1 (zL us)], .agg [.v (.int .i64 sp.code), .v (.int .i64 sp.mem), .v (.int .i64 sp.stack), .v (.int .i64 sp.val), .sl false 1 (zK sp.ws)], .v (.int .i64 o), .agg [.v (.int .i64 a.v), .v (.int .i64 a.l), .sl false 3 (zh a.code), .sl false 2 (zR a.mem), .sl false 3 (zc a.stack), .sl false 2 (zR a.out)], .agg [.v (.int .i64 b.v), .v (.int .i64 b.l), .sl false 3 (zh b.code), .sl false 2 (zR b.mem), .sl false 3 (zc b.stack), .sl false 2 (zR b.out)], .v undef, .v undef, .v undef, .v undef, .v undef, .v undef, .v undef, .v undef, .v undef, .v undef, .v undef, .v undef, .v undef, .v undef, .v undef, .v undef, .v undef, .v undef, .v undef, .v undef, .v undef, .v undef, .v undef, .v undef, .v undef, .v undef, .v undef, .v undef, .v undef, .v undef, .v undef], []⟩ rfl ?_
  repeat' first | (with_reducible first | refine zA ?_ | refine zB ?_ | refine zS ?_ | refine zI ?_) | ((first | with_reducible refine zC fun KC J hJ hKC => ?_ | (refine hKC _ _ _ _ _ (zD (h1) rfl rfl rfl ?_ ?_); (· exact Lq))); simp (maxSteps := 9999999) only [push_cast, seval, ↓reduceIte, h0']) | ((with_reducible refine hJ _ _ ?_); clear hJ hKC KC J) | ((with_reducible refine zF ?_ ?_); · rfl)
  refine zE ?_
  simp (maxSteps := 9999999) only [push_cast, seval, ↓reduceIte, show Tryz.f36.results = #[(.tmp 10), (.tmp 11)] from rfl]
  exact Lq
theorem zPx (f g : Bool) (ns : List ByteArray) (us : List Nat) (sp : Sp) (o : Int) (a b : Sta) (hs : Szs ns) (hu : U32 us) (hw : sp.ws.length ≤ 1000) (ha : Sml15 a) (hb : Sml15 b) :
  Fn Tryz.prog 37 [.agg [.sl false 1 (zM ns), .sl false 1 (zL us)], .agg (spF false sp), .v (.int .i64 o), .agg (zAN false false false false a), .agg (zAN false false false false b)] [] (.tup [.sl false 1 (zK (paU ns us sp o a b)), .v (.int .i64 (zBa ns us sp o a b))]) [] := by
 have h1 := zLD false false ns us sp o a b hs hu hw ha hb
 unfold paU
 by_cases h0 : zBa ns us sp o a b = 0
 ·have h2 := zGh false false ns us sp a hs hu hw ha
  have h3 := zHq ns us sp o a b hs hu hw ha hb
  have ht := zIM.1 h0
  have hpl : (zBY sp a ++ zAa sp us o.toNat a b).length ≤ 330 := by have := zFP sp ha; have := zGs sp us o.toNat a hb; rw [List.length_append]; omega
  have hms := zQM.2 ⟨ht.may, ht.ia⟩
  unfold stU at h2
  unfold vaU at h3
  rw [if_pos hms, hms] at h2
  rw [if_pos h0, h0] at h3
  rw [if_pos h0, h0]
  rw [h0] at h1
  have hpos := zFG sp a
  obtain ⟨A, hA⟩ : ∃ A, zBY sp a = A := ⟨_, rfl⟩
  obtain ⟨B, hB⟩ : ∃ A, zAa sp us o.toNat a b = A := ⟨_, rfl⟩
  rw [hA] at h2 hpl hpos ⊢
  rw [hB] at h3 hpl ⊢
  have hfl : zAf [(false, A), (false, B)] = A ++ B := by simp [zAf]
  have h4 := zGa true [(false, A), (false, B)] (by rw [hfl, List.length_append]; omega) (by rw [hfl]; omega) (by simp)
  rw [hfl] at h4
  simp only [zDX, List.map_cons, List.map_nil] at h4
  simp only [zAN, spF] at h1 h2 h3 ⊢
  refine Fn.of (fn := Tryz.f37) (by kernel_rfl) rfl (by kernel_rfl) ⟨[.agg [.sl false 1 (zM ns), .sl false 1 (zL us)], .agg [.v (.int .i64 sp.code), .v (.int .i64 sp.mem), .v (.int .i64 sp.stack), .v (.int .i64 sp.val), .sl false 1 (zK sp.ws)], .v (.int .i64 o), .agg [.v (.int .i64 a.v), .v (.int .i64 a.l), .sl false 3 (zh a.code), .sl false 2 (zR a.mem), .sl false 3 (zc a.stack), .sl false 2 (zR a.out)], .agg [.v (.int .i64 b.v), .v (.int .i64 b.l), .sl false 3 (zh b.code), .sl false 2 (zR b.mem), .sl false 3 (zc b.stack), .sl false 2 (zR b.out)], .v undef, .v undef, .v undef, .v undef, .v undef, .v undef, .v undef, .v undef, .v undef, .v undef, .v undef, .v undef, .v undef, .v undef, .v undef, .v undef, .v undef, .v undef, .v undef, .v undef, .v undef, .v undef, .v undef, .v undef, .v undef, .v undef, .v undef, .v undef, .v undef, .v undef, .v undef, .v undef, .v undef, .v undef, .v undef, .v undef, .v undef, .v undef, .v undef, .v undef, .v undef], []⟩ rfl ?_
  repeat' first | (with_reducible first | refine zA ?_ | refine zB ?_ | refine zI ?_ | refine zJ ?_) | ((first | with_reducible refine zC fun KC J hJ hKC => ?_ | (refine hKC _ _ _ _ _ (zD (h1) rfl rfl rfl ?_ ?_); (· exact Lq)) | (refine hKC _ _ _ _ _ (zD (h2) rfl rfl rfl ?_ ?_); (· exact Lq)) | (refine hKC _ _ _ _ _ (zD (h3) rfl rfl rfl ?_ ?_); (· exact Lq)) | (refine hKC _ _ _ _ _ (zD (h4) rfl rfl rfl ?_ ?_); (· exact Lq))); simp (maxSteps := 9999999) only [push_cast, seval, ↓reduceIte, bne_self_eq_false]) | ((with_reducible refine hJ _ _ ?_); clear hJ hKC KC J) | ((with_reducible refine zH ?_ ?_); · rfl)
  refine zE ?_
  simp (maxSteps := 9999999) only [push_cast, seval, ↓reduceIte, show Tryz.f37.results = #[(.tmp 10), (.tmp 11)] from rfl]
  exact Lq
 ·rw [if_neg h0]
  obtain ⟨e, he⟩ : ∃ e, zBa ns us sp o a b = e := ⟨_, rfl⟩
  rw [he] at h0 h1 ⊢
  have h0' : (e != 0) = true := by simpa using h0
  simp only [zAN, spF] at h1 ⊢
  refine Fn.of (fn := Tryz.f37) (by kernel_rfl) rfl (by kernel_rfl) ⟨[.agg [.sl false 1 (zM ns), .sl false 1 (zL us)], .agg [.v (.int .i64 sp.code), .v (.int .i64 sp.mem), .v (.int .i64 sp.stack), .v (.int .i64 sp.val), .sl false 1 (zK sp.ws)], .v (.int .i64 o), .agg [.v (.int .i64 a.v), .v (.int .i64 a.l), .sl false 3 (zh a.code), .sl false 2 (zR a.mem), .sl false 3 (zc a.stack), .sl false 2 (zR a.out)], .agg [.v (.int .i64 b.v), .v (.int .i64 b.l), .sl false 3 (zh b.code), .sl false 2 (zR b.mem), .sl false 3 (zc b.stack), .sl false 2 (zR b.out)], .v undef, .v undef, .v undef, .v undef, .v undef, .v undef, .v undef, .v undef, .v undef, .v undef, .v undef, .v undef, .v undef, .v undef, .v undef, .v undef, .v undef, .v undef, .v undef, .v undef, .v undef, .v undef, .v undef, .v undef, .v undef, .v undef, .v undef, .v undef, .v undef, .v undef, .v undef, .v undef, .v undef, .v undef, .v undef, .v undef, .v undef, .v undef, .v undef, .v undef, .v undef], []⟩ rfl ?_
  repeat' first | (with_reducible first | refine zA ?_ | refine zB ?_ | refine zS ?_ | refine zI ?_) | ((first | with_reducible refine zC fun KC J hJ hKC => ?_ | (refine hKC _ _ _ _ _ (zD (h1) rfl rfl rfl ?_ ?_); (· exact Lq))); simp (maxSteps := 9999999) only [push_cast, seval, ↓reduceIte, h0']) | ((with_reducible refine hJ _ _ ?_); clear hJ hKC KC J) | ((with_reducible refine zF ?_ ?_); · rfl)
  refine zE ?_
  simp (maxSteps := 9999999) only [push_cast, seval, ↓reduceIte, show Tryz.f37.results = #[(.tmp 10), (.tmp 11)] from rfl]
  exact Lq
theorem zPU (f g : Bool) (ns : List ByteArray) (us : List Nat) :
  Fn Tryz.prog 33 [.agg [.sl f 1 (zM ns), .sl g 1 (zL us)]] [] (.agg [.sl false 1 (zM ((ns.take 10).map zHi)), .sl false 1 (zL (us.take 10))]) [] := by
 refine Fn.of (fn := Tryz.f33) (by kernel_rfl) rfl (by kernel_rfl) ⟨[.agg [.sl f 1 (zM ns), .sl g 1 (zL us)], .v undef, .v undef, .v undef, .v undef, .v undef, .v undef, .v undef, .v undef, .v undef, .v undef, .v undef, .v undef, .v undef, .v undef, .v undef, .v undef, .v undef, .v undef, .v undef, .v undef, .v undef, .v undef, .v undef, .v undef, .v undef, .v undef, .v undef, .v undef, .v undef, .v undef, .v undef, .v undef, .v undef, .v undef, .v undef, .v undef, .v undef], []⟩ rfl ?_
 repeat' first | (with_reducible first | refine zA ?_ | refine zB ?_ | refine zG ?_) | ((with_reducible refine And.intro ?_ ?_); · exact Sq) | ((with_reducible refine zC fun KC J hJ hKC => ?_); simp (maxSteps := 9999999) only [push_cast, seval, ↓reduceIte, zBV (K := 10) (k := 10) rfl ns, zBV (K := 10) (k := 10) rfl us]) | ((with_reducible refine hJ _ _ ?_); clear hJ hKC KC J)
 obtain ⟨xs, hxs⟩ : ∃ xs, ns.take 10 = xs := ⟨_, rfl⟩
 have hx10 : xs.length ≤ 10 := by rw [← hxs]; simp; omega
 rw [hxs]
 refine ze (γ := {i : Nat // i ≤ xs.length}) (fun i => ⟨[.any, .ptr 0 0 0, .ptr 1 0 0, .ptr 2 0 0, .any, .any, .any, .any, .any, .any, .any, .any, .any, .any, .any, .any, .any, .any, .any, .any, .sl false 1 (zM xs), .v (.int .i64 xs.length), .v (.int .i64 i.1), .any, .any, .any, .any, .any, .any, .any, .any, .any, .any, .any, .any, .any, .any, .any], fσ ⟨0, none, 25, [.sl f 1 (zM ns), .sl g 1 (zL us)], .cells⟩ ⟨0, none, 25, [.v (.slice none 0 0), .v (.slice none 0 0)], .cells⟩ (.sl false 1 (zL (us.take 10))) xs i.1⟩) (fun i => xs.length - i.1) ⟨0, by simp⟩ ⟨?_, ?_⟩ ?_
 ·exact Lq
 ·simp only [fσ]
  exact Fq
 rintro ⟨i, hi⟩
 obtain ⟨e1, he1⟩ : ∃ e1 : Ent, ⟨0, none, 25, [.sl f 1 (zM ns), .sl g 1 (zL us)], .cells⟩ = e1 := ⟨_, rfl⟩
 rw [he1]
 by_cases hlt : (i : Int) < (xs.length : Int)
 ·have hx : xs[i]? = some xs[i] := List.getElem?_eq_getElem (by omega)
  obtain ⟨a, ha⟩ : ∃ a, xs[i] = a := ⟨_, rfl⟩
  rw [ha] at hx
  have hcut : a.extract 0 (if (15 : Int) < (a.size : Int) then 15 else (a.size : Int)).toNat = zHi a := rfl
  rcases Nat.eq_zero_or_pos i with rfl | hpos
  ·have hσ := zNf e1 ⟨0, none, 25, [.v (.slice none 0 0), .v (.slice none 0 0)], .cells⟩ (.sl false 1 (zL (us.take 10))) xs
   have hσ1 := zSU e1 ⟨0, none, 25, [.v (.slice none 0 0), .v (.slice none 0 0)], .cells⟩ (.sl false 1 (zL (us.take 10))) xs hx
   have hlt0 : (0 : Int) < xs.length := hlt
   repeat' first | (with_reducible first | refine zA ?_ | refine zB ?_ | refine zO ?_ | refine zJ ?_ | refine zG ?_) | ((with_reducible refine And.intro ?_ ?_); · exact Sq) | ((first | with_reducible refine zC fun KC J hJ hKC => ?_ | with_reducible refine zU rfl fun KC J hJ hKC => ?_); simp (maxSteps := 9999999) only [push_cast, seval, ↓reduceIte, hlt0, hσ, zBT hx, hcut]) | ((first | with_reducible refine hJ _ _ ?_ | (with_reducible refine hJ _ _ ?_ ?_; · kernel_rfl)); clear hJ hKC KC J) | ((with_reducible refine zF ?_ ?_); · rfl)
   refine ⟨⟨0 + 1, by omega⟩, by simp only; omega, ?_, ?_⟩
   ·exact Lq
   ·simp only [hσ1]
    exact Fq
  ·obtain ⟨i', hi'⟩ : ∃ i', i = i' + 1 := ⟨i - 1, by omega⟩
   have hσ := zKk e1 ⟨0, none, 25, [.v (.slice none 0 0), .v (.slice none 0 0)], .cells⟩ (.sl false 1 (zL (us.take 10))) xs hi'
   have hσ1 := zQk e1 ⟨0, none, 25, [.v (.slice none 0 0), .v (.slice none 0 0)], .cells⟩ (.sl false 1 (zL (us.take 10))) xs hi' hx
   have hlS : (zCk (zEP xs i)).length = i := by simp [zCk, zEI hi]
   have htS := zGK hlS
   have htS' : (zCk (zEP xs i)).take i = zCk (zEP xs i) := List.take_of_length_le (by omega)
   have hbq : Nat.beq i' i' = true := Nat.beq_refl i'
   repeat' first | (with_reducible first | refine zA ?_ | refine zB ?_ | refine zO ?_ | refine zJ ?_ | refine zG ?_) | ((with_reducible refine And.intro ?_ ?_); · exact Sq) | ((first | with_reducible refine zC fun KC J hJ hKC => ?_ | with_reducible refine zU rfl fun KC J hJ hKC => ?_); simp (maxSteps := 9999999) only [push_cast, seval, ↓reduceIte, hlt, hσ, zBT hx, hcut, hbq, hlS, htS, htS', zb (i := i) (n := xs.length) (by omega) (by omega)]) | ((first | with_reducible refine hJ _ _ ?_ | (with_reducible refine hJ _ _ ?_ ?_; · kernel_rfl)); clear hJ hKC KC J) | ((with_reducible refine zF ?_ ?_); · rfl)
   refine ⟨⟨i + 1, by omega⟩, by simp only; omega, ?_, ?_⟩
   ·exact Lq
   ·simp only [hσ1]
    exact Fq
 ·have hix : i = xs.length := by omega
  have hfin : zEP xs i = xs.map zHi := by rw [zEP, hix, List.take_length]
  rcases Nat.eq_zero_or_pos i with rfl | hpos
  ·have hσ := zNf e1 ⟨0, none, 25, [.v (.slice none 0 0), .v (.slice none 0 0)], .cells⟩ (.sl false 1 (zL (us.take 10))) xs
   have hlt0 : ¬ (0 : Int) < xs.length := hlt
   repeat' first | (with_reducible first | refine zA ?_ | refine zB ?_ | refine zX ?_ | refine zW ?_ | refine zI ?_ | refine zQ ?_) | ((with_reducible refine zC fun KC J hJ hKC => ?_); simp (maxSteps := 9999999) only [push_cast, seval, ↓reduceIte, hlt0, hσ]) | ((with_reducible refine hJ _ _ ?_); clear hJ hKC KC J) | ((with_reducible refine zH ?_ ?_); · rfl)
   refine zE ?_
   simp (maxSteps := 9999999) only [push_cast, seval, ↓reduceIte, show Tryz.f33.results = #[(.cell 2 25)] from rfl]
   rw [← hfin]
   exact Lq
  ·obtain ⟨i', hi'⟩ : ∃ i', i = i' + 1 := ⟨i - 1, by omega⟩
   have hσ := zKk e1 ⟨0, none, 25, [.v (.slice none 0 0), .v (.slice none 0 0)], .cells⟩ (.sl false 1 (zL (us.take 10))) xs hi'
   have hbq : Nat.beq i' i' = true := Nat.beq_refl i'
   have hlS : (zCk (zEP xs i)).length = i := by simp [zCk, zEI hi]
   have hcS : zBF 1 i (zCk (zEP xs i)) = zM (zEP xs i) := by
    have := zGg (fun s : ByteArray => (.v (.string s) : D)) (zEP xs i)
    rw [zEI hi] at this; exact this
   subst he1
   repeat' first | (with_reducible first | refine zA ?_ | refine zB ?_ | refine zX ?_ | refine zW ?_ | refine zQ ?_) | ((with_reducible refine zC fun KC J hJ hKC => ?_); simp (maxSteps := 9999999) only [push_cast, seval, ↓reduceIte, hlt, hσ]) | ((with_reducible refine hJ _ _ ?_); clear hJ hKC KC J) | ((with_reducible refine zH ?_ ?_); · rfl)
   refine zt 4 rfl (by simp (maxSteps := 9999999) only [push_cast, seval, ↓reduceIte]) ?_
   simp (maxSteps := 9999999) only [push_cast, seval, ↓reduceIte, zAH, zd, fr3, fr2, fr1, fr0, zl, zj, hbq, hlS, hcS]
   refine zI ?_
   refine zE ?_
   simp (maxSteps := 9999999) only [push_cast, seval, ↓reduceIte, show Tryz.f33.results = #[(.cell 2 25)] from rfl]
   rw [← hfin]
   exact Lq
theorem zMB (fc fm fs fo : Bool) (s : Sta) : Fn Tryz.prog 34 [.agg (zAN fc fm fs fo s)] [] (.agg (zAN false false false false (zDN s))) [] := by
 obtain ⟨v, l, code, mem, stack, out⟩ := s
 simp only [zAN, zDN]
 refine Fn.of (fn := Tryz.f34) (by kernel_rfl) rfl (by kernel_rfl) ⟨[.agg [.v (.int .i64 v), .v (.int .i64 l), .sl fc 3 (zh code), .sl fm 2 (zR mem), .sl fs 3 (zc stack), .sl fo 2 (zR out)], .v undef, .v undef, .v undef, .v undef, .v undef, .v undef, .v undef, .v undef, .v undef, .v undef, .v undef, .v undef, .v undef, .v undef, .v undef, .v undef, .v undef, .v undef, .v undef, .v undef, .v undef, .v undef, .v undef, .v undef, .v undef, .v undef, .v undef, .v undef, .v undef, .v undef, .v undef, .v undef, .v undef, .v undef, .v undef], []⟩ rfl ?_
 repeat' first | (with_reducible first | refine zA ?_ | refine zB ?_ | refine zI ?_) | ((with_reducible refine And.intro ?_ ?_); · exact Sq) | ((first | with_reducible refine zC fun KC J hJ hKC => ?_ | with_reducible refine zU rfl fun KC J hJ hKC => ?_); simp (maxSteps := 9999999) only [push_cast, seval, ↓reduceIte, zBV (K := 15) (k := 15) rfl code, zBV (K := 15) (k := 15) rfl mem, zBV (K := 15) (k := 15) rfl stack, zBV (K := 15) (k := 15) rfl out]) | ((first | with_reducible refine hJ _ _ ?_ | (with_reducible refine hJ _ _ ?_ ?_; · kernel_rfl)); clear hJ hKC KC J)
 refine zE ?_
 simp (maxSteps := 9999999) only [push_cast, seval, ↓reduceIte, show Tryz.f34.results = #[(.cell 2 39)] from rfl]
 exact zN _
def zJl : List ByteArray := [{ data := #[97] }, { data := #[98] }]
@[reducible] def zPz : Sp := ⟨0, 2, 0, 5, List.replicate 13 1⟩
@[reducible] def s17 : Sta := ⟨0, 0, [], [(-1, 1)], [], []⟩
theorem zMl : Fn Tryz.prog 40 [] [] (.v (.bool true)) [] := by
 have hs : Szs zJl := by
  intro s hs
  simp only [zJl, List.mem_cons, List.not_mem_nil, or_false] at hs
  rcases hs with rfl | rfl <;> (show 1 ≤ _; omega)
 have hu : U32 [3, 2] := by
  intro u hu
  simp at hu
  rcases hu with rfl | rfl <;> decide
 have sa : Sml15 s17 := ⟨by decide, by decide, by decide, by decide⟩
 have hrep : RleF [.v (.int .i64 0), .v (.int .i64 0), .sl false 3 [], .sl true 2 (zR [(-1, 1)]), .sl false 3 [], .sl false 2 []] (zAN false false false false s17) :=
  .cons (.refl _) (.cons (.refl _) (.cons (.refl _) (.cons (.full _ _) (.cons (.refl _) (.cons (.refl _) .nil)))))
 have h1 := (zGh true true zJl [3, 2] zPz s17 hs hu (by simp) sa).pre (args := [.agg [.sl true 1 (zM zJl), .sl true 1 (zL [3, 2])], .agg (spF true zPz), .agg [.v (.int .i64 0), .v (.int .i64 0), .sl false 3 [], .sl true 2 (zR [(-1, 1)]), .sl false 3 [], .sl false 2 []]])
  (.cons (.refl _) (.cons (.agg (.cons (.refl _) (.cons (.refl _) (.cons (.refl _) (.cons (.refl _) (.cons (.full _ _) .nil)))))) (.cons (.agg hrep) .nil)))
 rw [show stU zJl [3, 2] zPz s17 = [0, 1, 2, 1, 0, 0, 0] by kernel_rfl, show zCA zJl [3, 2] zPz s17 = 0 by kernel_rfl] at h1
 simp only [spF, zPz, zAN] at h1
 have h2 := (zFj false false [0, 1, 2, 1, 0, 0, 0] [0, 1, 2, 1, 0, 0, 0] (by decide)).pre (args := [.sl false 1 (zK [0, 1, 2, 1, 0, 0, 0]), .sl true 1 (zK [0, 1, 2, 1, 0, 0, 0])]) (.cons (.refl _) (.cons (.full _ _) .nil))
 rw [decide_eq_true rfl] at h2
 refine Fn.of (fn := Tryz.f40) (by kernel_rfl) rfl (by kernel_rfl) ⟨[.v undef, .v undef, .v undef, .v undef, .v undef, .v undef, .v undef, .v undef, .v undef, .v undef, .v undef, .v undef, .v undef, .v undef, .v undef, .v undef, .v undef, .v undef, .v undef, .v undef, .v undef, .v undef, .v undef, .v undef, .v undef, .v undef], []⟩ rfl ?_
 repeat' first | (with_reducible first | refine zA ?_ | refine zB ?_ | refine zI ?_) | ((first | with_reducible refine zC fun KC J hJ hKC => ?_ | (refine hKC _ _ _ _ _ (zD (h1) rfl rfl rfl ?_ ?_); (· exact Lq)) | (refine hKC _ _ _ _ _ (zD (h2) rfl rfl rfl ?_ ?_); (· exact Lq))); simp (maxSteps := 9999999) only [push_cast, seval, ↓reduceIte, beq_self_eq_true, undef]) | ((with_reducible refine hJ _ _ ?_); clear hJ hKC KC J)
 refine zE ?_
 simp (maxSteps := 9999999) only [push_cast, seval, ↓reduceIte, show Tryz.f40.results = #[(.tmp 0)] from rfl]
 exact Lq
theorem zKC (a b : Int) : decide (a = b) = (a == b) := by rw [Bool.eq_iff_iff]; simp
theorem zNR (n : Nat) (a : Int) : (!zn n a) = (decide (0 ≤ a) && decide (a < (n : Int))) := by rw [Bool.eq_iff_iff]; simp [zn]
theorem zSy (v : Int) : inB 0 1 v = ((v == 0) || (v == 1)) := by rw [Bool.eq_iff_iff]; simp [inB]; omega
theorem zKv (n : Nat) (x : Int × Int × Int) : Fn Tryz.prog 250 [.v (.int .i64 n), .agg [.v (.int .i64 x.1), .v (.int .i64 x.2.1), .v (.int .i64 x.2.2)]] [] (.v (.bool (zBR n x))) [] := by
 obtain ⟨o, v, l⟩ := x
 simp only [zBR]
 by_cases e1 : o = 1
 ·subst e1
  rw [if_pos rfl, zNR, inB]
  obtain ⟨a1, ha1⟩ : ∃ b, decide (-20 ≤ v) = b := ⟨_, rfl⟩
  obtain ⟨a2, ha2⟩ : ∃ b, decide (v ≤ 20) = b := ⟨_, rfl⟩
  obtain ⟨a3, ha3⟩ : ∃ b, decide (0 ≤ l) = b := ⟨_, rfl⟩
  rw [ha1, ha2, ha3]
  cases a1 <;> cases a2 <;> cases a3
  all_goals
   refine Fn.of (fn := Tryz.f250) (by kernel_rfl) rfl (by kernel_rfl) ⟨[.v (.int .i64 n), .agg [.v (.int .i64 1), .v (.int .i64 v), .v (.int .i64 l)], .v undef, .v undef, .v undef, .v undef, .v undef, .v undef, .v undef, .v undef, .v undef, .v undef, .v undef, .v undef, .v undef, .v undef, .v undef, .v undef, .v undef, .v undef, .v undef, .v undef, .v undef, .v undef, .v undef, .v undef, .v undef, .v undef, .v undef, .v undef, .v undef, .v undef, .v undef, .v undef, .v undef, .v undef, .v undef, .v undef, .v undef, .v undef, .v undef, .v undef, .v undef, .v undef, .v undef, .v undef, .v undef, .v undef, .v undef, .v undef, .v undef, .v undef, .v undef, .v undef, .v undef, .v undef, .v undef, .v undef, .v undef, .v undef, .v undef, .v undef, .v undef, .v undef, .v undef, .v undef, .v undef, .v undef, .v undef, .v undef, .v undef, .v undef, .v undef, .v undef, .v undef, .v undef], []⟩ rfl ?_
   repeat' first | (with_reducible first | refine zA ?_ | refine zB ?_ | refine zS ?_ | refine zI ?_) | ((with_reducible refine zC fun KC J hJ hKC => ?_); simp (maxSteps := 9999999) only [push_cast, seval, ↓reduceIte, ha1, ha2, ha3, undef]) | ((with_reducible refine hJ _ _ ?_); clear hJ hKC KC J) | ((with_reducible refine zF ?_ ?_); · rfl)
   refine zE ?_
   simp (maxSteps := 9999999) only [push_cast, seval, ↓reduceIte, show Tryz.f250.results = #[(.tmp 4)] from rfl]
   exact Lq
 have e1' : (o == 1) = false := by simpa using e1
 rw [if_neg e1, zKC]
 obtain ⟨b1, hb1⟩ : ∃ b, decide (o < 0) = b := ⟨_, rfl⟩
 cases b1
 case true =>
  have := of_decide_eq_true hb1
  rw [show inB 0 12 o = false by simp [inB]; omega]
  refine Fn.of (fn := Tryz.f250) (by kernel_rfl) rfl (by kernel_rfl) ⟨[.v (.int .i64 n), .agg [.v (.int .i64 o), .v (.int .i64 v), .v (.int .i64 l)], .v undef, .v undef, .v undef, .v undef, .v undef, .v undef, .v undef, .v undef, .v undef, .v undef, .v undef, .v undef, .v undef, .v undef, .v undef, .v undef, .v undef, .v undef, .v undef, .v undef, .v undef, .v undef, .v undef, .v undef, .v undef, .v undef, .v undef, .v undef, .v undef, .v undef, .v undef, .v undef, .v undef, .v undef, .v undef, .v undef, .v undef, .v undef, .v undef, .v undef, .v undef, .v undef, .v undef, .v undef, .v undef, .v undef, .v undef, .v undef, .v undef, .v undef, .v undef, .v undef, .v undef, .v undef, .v undef, .v undef, .v undef, .v undef, .v undef, .v undef, .v undef, .v undef, .v undef, .v undef, .v undef, .v undef, .v undef, .v undef, .v undef, .v undef, .v undef, .v undef, .v undef, .v undef], []⟩ rfl ?_
  repeat' first | (with_reducible first | refine zA ?_ | refine zB ?_ | refine zS ?_ | refine zI ?_ | refine zJ ?_) | ((with_reducible refine zC fun KC J hJ hKC => ?_); simp (maxSteps := 9999999) only [push_cast, seval, ↓reduceIte, e1', hb1, undef]) | ((with_reducible refine hJ _ _ ?_); clear hJ hKC KC J) | ((with_reducible refine zF ?_ ?_); · rfl) | ((with_reducible refine zH ?_ ?_); · rfl)
  refine zE ?_
  simp (maxSteps := 9999999) only [push_cast, seval, ↓reduceIte, show Tryz.f250.results = #[(.tmp 4)] from rfl]
  exact Lq
 have hb := of_decide_eq_false hb1
 obtain ⟨b2, hb2⟩ : ∃ b, decide (12 < o) = b := ⟨_, rfl⟩
 cases b2
 case true =>
  have := of_decide_eq_true hb2
  rw [show inB 0 12 o = false by simp [inB]; omega]
  refine Fn.of (fn := Tryz.f250) (by kernel_rfl) rfl (by kernel_rfl) ⟨[.v (.int .i64 n), .agg [.v (.int .i64 o), .v (.int .i64 v), .v (.int .i64 l)], .v undef, .v undef, .v undef, .v undef, .v undef, .v undef, .v undef, .v undef, .v undef, .v undef, .v undef, .v undef, .v undef, .v undef, .v undef, .v undef, .v undef, .v undef, .v undef, .v undef, .v undef, .v undef, .v undef, .v undef, .v undef, .v undef, .v undef, .v undef, .v undef, .v undef, .v undef, .v undef, .v undef, .v undef, .v undef, .v undef, .v undef, .v undef, .v undef, .v undef, .v undef, .v undef, .v undef, .v undef, .v undef, .v undef, .v undef, .v undef, .v undef, .v undef, .v undef, .v undef, .v undef, .v undef, .v undef, .v undef, .v undef, .v undef, .v undef, .v undef, .v undef, .v undef, .v undef, .v undef, .v undef, .v undef, .v undef, .v undef, .v undef, .v undef, .v undef, .v undef, .v undef, .v undef], []⟩ rfl ?_
  repeat' first | (with_reducible first | refine zA ?_ | refine zB ?_ | refine zS ?_ | refine zI ?_ | refine zJ ?_) | ((with_reducible refine zC fun KC J hJ hKC => ?_); simp (maxSteps := 9999999) only [push_cast, seval, ↓reduceIte, e1', hb1, hb2, undef]) | ((with_reducible refine hJ _ _ ?_); clear hJ hKC KC J) | ((with_reducible refine zF ?_ ?_); · rfl) | ((with_reducible refine zH ?_ ?_); · rfl)
  refine zE ?_
  simp (maxSteps := 9999999) only [push_cast, seval, ↓reduceIte, show Tryz.f250.results = #[(.tmp 4)] from rfl]
  exact Lq
 have hbb := of_decide_eq_false hb2
 rw [show inB 0 12 o = true by simp [inB]; omega]
 obtain ⟨c1, hc1⟩ : ∃ b, (l == 0) = b := ⟨_, rfl⟩
 have hc1' : (l != 0) = !c1 := by rw [← hc1]; rfl
 rw [hc1]
 cases c1
 case false =>
  refine Fn.of (fn := Tryz.f250) (by kernel_rfl) rfl (by kernel_rfl) ⟨[.v (.int .i64 n), .agg [.v (.int .i64 o), .v (.int .i64 v), .v (.int .i64 l)], .v undef, .v undef, .v undef, .v undef, .v undef, .v undef, .v undef, .v undef, .v undef, .v undef, .v undef, .v undef, .v undef, .v undef, .v undef, .v undef, .v undef, .v undef, .v undef, .v undef, .v undef, .v undef, .v undef, .v undef, .v undef, .v undef, .v undef, .v undef, .v undef, .v undef, .v undef, .v undef, .v undef, .v undef, .v undef, .v undef, .v undef, .v undef, .v undef, .v undef, .v undef, .v undef, .v undef, .v undef, .v undef, .v undef, .v undef, .v undef, .v undef, .v undef, .v undef, .v undef, .v undef, .v undef, .v undef, .v undef, .v undef, .v undef, .v undef, .v undef, .v undef, .v undef, .v undef, .v undef, .v undef, .v undef, .v undef, .v undef, .v undef, .v undef, .v undef, .v undef, .v undef, .v undef], []⟩ rfl ?_
  repeat' first | (with_reducible first | refine zA ?_ | refine zB ?_ | refine zS ?_ | refine zI ?_ | refine zJ ?_) | ((with_reducible refine zC fun KC J hJ hKC => ?_); simp (maxSteps := 9999999) only [push_cast, seval, ↓reduceIte, e1', hb1, hb2, hc1', undef]) | ((with_reducible refine hJ _ _ ?_); clear hJ hKC KC J) | ((with_reducible refine zF ?_ ?_); · rfl) | ((with_reducible refine zH ?_ ?_); · rfl)
  refine zE ?_
  simp (maxSteps := 9999999) only [push_cast, seval, ↓reduceIte, show Tryz.f250.results = #[(.tmp 4)] from rfl]
  exact Lq
 by_cases e8 : o = 8
 ·subst e8
  rw [if_pos rfl, inB]
  obtain ⟨a1, ha1⟩ : ∃ b, decide (0 ≤ v) = b := ⟨_, rfl⟩
  rw [ha1]
  cases a1
  all_goals
   refine Fn.of (fn := Tryz.f250) (by kernel_rfl) rfl (by kernel_rfl) ⟨[.v (.int .i64 n), .agg [.v (.int .i64 8), .v (.int .i64 v), .v (.int .i64 l)], .v undef, .v undef, .v undef, .v undef, .v undef, .v undef, .v undef, .v undef, .v undef, .v undef, .v undef, .v undef, .v undef, .v undef, .v undef, .v undef, .v undef, .v undef, .v undef, .v undef, .v undef, .v undef, .v undef, .v undef, .v undef, .v undef, .v undef, .v undef, .v undef, .v undef, .v undef, .v undef, .v undef, .v undef, .v undef, .v undef, .v undef, .v undef, .v undef, .v undef, .v undef, .v undef, .v undef, .v undef, .v undef, .v undef, .v undef, .v undef, .v undef, .v undef, .v undef, .v undef, .v undef, .v undef, .v undef, .v undef, .v undef, .v undef, .v undef, .v undef, .v undef, .v undef, .v undef, .v undef, .v undef, .v undef, .v undef, .v undef, .v undef, .v undef, .v undef, .v undef, .v undef, .v undef], []⟩ rfl ?_
   repeat' first | (with_reducible first | refine zA ?_ | refine zB ?_ | refine zS ?_ | refine zI ?_ | refine zJ ?_) | ((with_reducible refine zC fun KC J hJ hKC => ?_); simp (maxSteps := 9999999) only [push_cast, seval, ↓reduceIte, hc1', ha1, undef]) | ((with_reducible refine hJ _ _ ?_); clear hJ hKC KC J) | ((with_reducible refine zF ?_ ?_); · rfl) | ((with_reducible refine zH ?_ ?_); · rfl)
   refine zE ?_
   simp (maxSteps := 9999999) only [push_cast, seval, ↓reduceIte, show Tryz.f250.results = #[(.tmp 4)] from rfl]
   exact Lq
 rw [if_neg e8]
 by_cases e9 : o = 9
 ·subst e9
  rw [if_pos rfl, inB]
  obtain ⟨a1, ha1⟩ : ∃ b, decide (0 ≤ v) = b := ⟨_, rfl⟩
  rw [ha1]
  cases a1
  all_goals
   refine Fn.of (fn := Tryz.f250) (by kernel_rfl) rfl (by kernel_rfl) ⟨[.v (.int .i64 n), .agg [.v (.int .i64 9), .v (.int .i64 v), .v (.int .i64 l)], .v undef, .v undef, .v undef, .v undef, .v undef, .v undef, .v undef, .v undef, .v undef, .v undef, .v undef, .v undef, .v undef, .v undef, .v undef, .v undef, .v undef, .v undef, .v undef, .v undef, .v undef, .v undef, .v undef, .v undef, .v undef, .v undef, .v undef, .v undef, .v undef, .v undef, .v undef, .v undef, .v undef, .v undef, .v undef, .v undef, .v undef, .v undef, .v undef, .v undef, .v undef, .v undef, .v undef, .v undef, .v undef, .v undef, .v undef, .v undef, .v undef, .v undef, .v undef, .v undef, .v undef, .v undef, .v undef, .v undef, .v undef, .v undef, .v undef, .v undef, .v undef, .v undef, .v undef, .v undef, .v undef, .v undef, .v undef, .v undef, .v undef, .v undef, .v undef, .v undef, .v undef, .v undef], []⟩ rfl ?_
   repeat' first | (with_reducible first | refine zA ?_ | refine zB ?_ | refine zS ?_ | refine zI ?_ | refine zJ ?_) | ((with_reducible refine zC fun KC J hJ hKC => ?_); simp (maxSteps := 9999999) only [push_cast, seval, ↓reduceIte, hc1', ha1, undef]) | ((with_reducible refine hJ _ _ ?_); clear hJ hKC KC J) | ((with_reducible refine zF ?_ ?_); · rfl) | ((with_reducible refine zH ?_ ?_); · rfl)
   refine zE ?_
   simp (maxSteps := 9999999) only [push_cast, seval, ↓reduceIte, show Tryz.f250.results = #[(.tmp 4)] from rfl]
   exact Lq
 rw [if_neg e9]
 by_cases e10 : o = 10
 ·subst e10
  rw [if_pos rfl, zSy]
  obtain ⟨a1, ha1⟩ : ∃ b, (v == 0) = b := ⟨_, rfl⟩
  rw [ha1]
  cases a1
  all_goals
   refine Fn.of (fn := Tryz.f250) (by kernel_rfl) rfl (by kernel_rfl) ⟨[.v (.int .i64 n), .agg [.v (.int .i64 10), .v (.int .i64 v), .v (.int .i64 l)], .v undef, .v undef, .v undef, .v undef, .v undef, .v undef, .v undef, .v undef, .v undef, .v undef, .v undef, .v undef, .v undef, .v undef, .v undef, .v undef, .v undef, .v undef, .v undef, .v undef, .v undef, .v undef, .v undef, .v undef, .v undef, .v undef, .v undef, .v undef, .v undef, .v undef, .v undef, .v undef, .v undef, .v undef, .v undef, .v undef, .v undef, .v undef, .v undef, .v undef, .v undef, .v undef, .v undef, .v undef, .v undef, .v undef, .v undef, .v undef, .v undef, .v undef, .v undef, .v undef, .v undef, .v undef, .v undef, .v undef, .v undef, .v undef, .v undef, .v undef, .v undef, .v undef, .v undef, .v undef, .v undef, .v undef, .v undef, .v undef, .v undef, .v undef, .v undef, .v undef, .v undef, .v undef], []⟩ rfl ?_
   repeat' first | (with_reducible first | refine zA ?_ | refine zB ?_ | refine zS ?_ | refine zI ?_ | refine zJ ?_) | ((with_reducible refine zC fun KC J hJ hKC => ?_); simp (maxSteps := 9999999) only [push_cast, seval, ↓reduceIte, hc1', ha1, undef]) | ((with_reducible refine hJ _ _ ?_); clear hJ hKC KC J) | ((with_reducible refine zF ?_ ?_); · rfl) | ((with_reducible refine zH ?_ ?_); · rfl)
   refine zE ?_
   simp (maxSteps := 9999999) only [push_cast, seval, ↓reduceIte, show Tryz.f250.results = #[(.tmp 4)] from rfl]
   exact Lq
 rw [if_neg e10, zKC]
 have e8' : (o == 8) = false := by simpa using e8
 have e9' : (o == 9) = false := by simpa using e9
 have e10' : (o == 10) = false := by simpa using e10
 refine Fn.of (fn := Tryz.f250) (by kernel_rfl) rfl (by kernel_rfl) ⟨[.v (.int .i64 n), .agg [.v (.int .i64 o), .v (.int .i64 v), .v (.int .i64 l)], .v undef, .v undef, .v undef, .v undef, .v undef, .v undef, .v undef, .v undef, .v undef, .v undef, .v undef, .v undef, .v undef, .v undef, .v undef, .v undef, .v undef, .v undef, .v undef, .v undef, .v undef, .v undef, .v undef, .v undef, .v undef, .v undef, .v undef, .v undef, .v undef, .v undef, .v undef, .v undef, .v undef, .v undef, .v undef, .v undef, .v undef, .v undef, .v undef, .v undef, .v undef, .v undef, .v undef, .v undef, .v undef, .v undef, .v undef, .v undef, .v undef, .v undef, .v undef, .v undef, .v undef, .v undef, .v undef, .v undef, .v undef, .v undef, .v undef, .v undef, .v undef, .v undef, .v undef, .v undef, .v undef, .v undef, .v undef, .v undef, .v undef, .v undef, .v undef, .v undef, .v undef, .v undef], []⟩ rfl ?_
 repeat' first | (with_reducible first | refine zA ?_ | refine zB ?_ | refine zI ?_ | refine zJ ?_) | ((with_reducible refine zC fun KC J hJ hKC => ?_); simp (maxSteps := 9999999) only [push_cast, seval, ↓reduceIte, e1', hb1, hb2, hc1', e8', e9', e10', undef]) | ((with_reducible refine hJ _ _ ?_); clear hJ hKC KC J) | ((with_reducible refine zH ?_ ?_); · rfl)
 refine zE ?_
 simp (maxSteps := 9999999) only [push_cast, seval, ↓reduceIte, show Tryz.f250.results = #[(.tmp 4)] from rfl]
 exact Lq
theorem zLF (f g h : Bool) (ns : List ByteArray) (us : List Nat) (xs : List (Int × Int × Int)) (hl : xs.length ≤ 1000) :
  Fn Tryz.prog 156 [.agg [.sl f 1 (zM ns), .sl g 1 (zL us)], .sl h 3 (zh xs)] [] (.v (.bool (zDL us.length xs))) [] := by
 refine Fn.of (fn := Tryz.f156) (by kernel_rfl) rfl (by kernel_rfl) ⟨[.agg [.sl f 1 (zM ns), .sl g 1 (zL us)], .sl h 3 (zh xs), .v undef, .v undef, .v undef, .v undef, .v undef, .v undef, .v undef, .v undef, .v undef, .v undef, .v undef, .v undef, .v undef, .v undef, .v undef, .v undef, .v undef, .v undef, .v undef, .v undef, .v undef], []⟩ rfl ?_
 repeat' first | (with_reducible first | refine zA ?_ | refine zB ?_ | refine zG ?_) | ((with_reducible refine zC fun KC J hJ hKC => ?_); simp (maxSteps := 9999999) only [push_cast, seval, ↓reduceIte]) | ((with_reducible refine hJ _ _ ?_); clear hJ hKC KC J)
 refine zi 1 (γ := {i : Nat // i ≤ xs.length ∧ ∀ (j : Nat) (x : Int × Int × Int), j < i → xs[j]? = some x → (zBR us.length x) = true}) (fun i => ⟨[.any, .sl h 3 (zh xs), .ptr 0 0 0, .any, .any, .any, .any, .sl h 3 (zh xs), .v (.int .i64 xs.length), .v (.int .i64 i.1), .any, .any, .any, .any, .any, .any, .any, .any, .any, .any, .any, .any, .any], [.ent ⟨0, none, 25, [.sl f 1 (zM ns), .sl g 1 (zL us)], .cells⟩]⟩) (fun i => xs.length - i.1) ⟨0, by simp⟩ (fun i => rfl) (fun i => zr rfl) (fun i => rfl) ⟨?_, Fq⟩ ?_
 ·exact Lq
 rintro ⟨i, hi, hno⟩
 by_cases hlt : (i : Int) < (xs.length : Int)
 ·have hx : xs[i]? = some xs[i] := List.getElem?_eq_getElem (by omega)
  obtain ⟨x, hx0⟩ : ∃ x, xs[i] = x := ⟨_, rfl⟩
  rw [hx0] at hx
  have hnot : (zBR us.length x) = false → xs.all (zBR us.length) = false := fun h => by
   rw [List.all_eq_false]; exact ⟨x, List.mem_of_getElem? hx, by rw [h]; simp⟩
  have hyes : (zBR us.length x) = true → ∀ (j : Nat) (y : Int × Int × Int), j < i + 1 → xs[j]? = some y → (zBR us.length y) = true := fun h j y hj hy => by
   by_cases hji : j = i
   ·subst hji; rw [hx] at hy; cases hy; exact h
   ·exact hno j y (by omega) hy
  have h1 := zKv us.length x
  cases hb : zBR us.length x
  ·rw [hb] at h1
   repeat' first | (with_reducible first | refine zA ?_ | refine zB ?_ | refine zS ?_ | refine zg ?_ | refine zI ?_ | refine zJ ?_ | refine zG ?_) | ((with_reducible refine And.intro ?_ ?_); · exact Sq) | ((first | with_reducible refine zC fun KC J hJ hKC => ?_ | (refine hKC _ _ _ _ _ (zD (h1) rfl rfl rfl ?_ ?_); (· exact Lq))); simp (maxSteps := 9999999) only [push_cast, seval, ↓reduceIte, hlt, zAp hx, undef]) | ((with_reducible refine hJ _ _ ?_); clear hJ hKC KC J) | ((with_reducible refine zF ?_ ?_); · rfl)
   refine zE ?_
   simp (maxSteps := 9999999) only [push_cast, seval, ↓reduceIte, show Tryz.f156.results = #[(.tmp 4)] from rfl]
   rw [zDL, hnot hb]
   exact Lq
  ·rw [hb] at h1
   repeat' first | (with_reducible first | refine zA ?_ | refine zB ?_ | refine zO ?_ | refine zJ ?_ | refine zG ?_) | ((with_reducible refine And.intro ?_ ?_); · exact Sq) | ((first | with_reducible refine zC fun KC J hJ hKC => ?_ | (refine hKC _ _ _ _ _ (zD (h1) rfl rfl rfl ?_ ?_); (· exact Lq))); simp (maxSteps := 9999999) only [push_cast, seval, ↓reduceIte, hlt, zAp hx, zb (i := i) (n := xs.length) (by omega) (by omega), undef]) | ((with_reducible refine hJ _ _ ?_); clear hJ hKC KC J) | ((with_reducible refine zF ?_ ?_); · rfl) | ((with_reducible refine zH ?_ ?_); · rfl)
   refine ⟨⟨i + 1, by omega, hyes hb⟩, by simp only; omega, ?_, ⟨_, rfl⟩⟩
   exact Lq
 have hin : i = xs.length := by omega
 have hall : xs.all (zBR us.length) = true := by
  rw [List.all_eq_true]
  intro x hx
  obtain ⟨j, hj⟩ := List.mem_iff_getElem?.1 hx
  exact hno j x (by have := (List.getElem?_eq_some_iff.1 hj).1; omega) hj
 repeat' first | (with_reducible first | refine zA ?_ | refine zB ?_ | refine zX ?_ | refine zW ?_ | refine zI ?_ | refine zQ ?_) | ((with_reducible refine zC fun KC J hJ hKC => ?_); simp (maxSteps := 9999999) only [push_cast, seval, ↓reduceIte, hlt]) | ((with_reducible refine hJ _ _ ?_); clear hJ hKC KC J) | ((with_reducible refine zH ?_ ?_); · rfl)
 refine zE ?_
 simp (maxSteps := 9999999) only [push_cast, seval, ↓reduceIte, show Tryz.f156.results = #[(.tmp 4)] from rfl]
 rw [zDL, hall, Bool.true_and, show decide (xs.length ≤ 12) = decide ((xs.length : Int) ≤ 12) from decide_eq_decide.2 (by omega)]
 exact Lq
theorem zEJ (f g : Bool) (ns : List ByteArray) (us : List Nat) (a : Int) : Fn Tryz.prog 157 [.agg [.sl f 1 (zM ns), .sl g 1 (zL us)], .v (.int .i64 a)] [] (.v (.bool (!zn us.length a))) [] := by
 rw [zNR]
 obtain ⟨x, hx⟩ : ∃ x, decide (0 ≤ a) = x := ⟨_, rfl⟩
 rw [hx]
 refine Fn.of (fn := Tryz.f157) (by kernel_rfl) rfl (by kernel_rfl) ⟨[.agg [.sl f 1 (zM ns), .sl g 1 (zL us)], .v (.int .i64 a), .v undef, .v undef, .v undef, .v undef, .v undef, .v undef, .v undef, .v undef, .v undef, .v undef, .v undef, .v undef], []⟩ rfl ?_
 cases x
 all_goals
  repeat' first | (with_reducible first | refine zA ?_ | refine zB ?_ | refine zI ?_) | ((with_reducible refine zC fun KC J hJ hKC => ?_); simp (maxSteps := 9999999) only [push_cast, seval, ↓reduceIte, hx, undef]) | ((with_reducible refine hJ _ _ ?_); clear hJ hKC KC J)
  refine zE ?_
  simp (maxSteps := 9999999) only [push_cast, seval, ↓reduceIte, show Tryz.f157.results = #[(.tmp 4)] from rfl]
  exact Lq
theorem zGq (f g h : Bool) (ns : List ByteArray) (us : List Nat) (xs : List (Int × Int)) (hl : xs.length ≤ 1000) :
  Fn Tryz.prog 158 [.agg [.sl f 1 (zM ns), .sl g 1 (zL us)], .sl h 2 (zR xs)] [] (.v (.bool (xs.all (zBL us.length)))) [] := by
 refine Fn.of (fn := Tryz.f158) (by kernel_rfl) rfl (by kernel_rfl) ⟨[.agg [.sl f 1 (zM ns), .sl g 1 (zL us)], .sl h 2 (zR xs), .v undef, .v undef, .v undef, .v undef, .v undef, .v undef, .v undef, .v undef, .v undef, .v undef, .v undef, .v undef, .v undef, .v undef, .v undef, .v undef, .v undef, .v undef, .v undef, .v undef, .v undef, .v undef, .v undef, .v undef, .v undef, .v undef, .v undef], []⟩ rfl ?_
 repeat' first | (with_reducible first | refine zA ?_ | refine zB ?_ | refine zG ?_) | ((with_reducible refine zC fun KC J hJ hKC => ?_); simp (maxSteps := 9999999) only [push_cast, seval, ↓reduceIte]) | ((with_reducible refine hJ _ _ ?_); clear hJ hKC KC J)
 refine zi 1 (γ := {i : Nat // i ≤ xs.length ∧ ∀ (j : Nat) (x : Int × Int), j < i → xs[j]? = some x → (zBL us.length x) = true}) (fun i => ⟨[.any, .sl h 2 (zR xs), .ptr 0 0 0, .any, .any, .any, .any, .sl h 2 (zR xs), .v (.int .i64 xs.length), .v (.int .i64 i.1), .any, .any, .any, .any, .any, .any, .any, .any, .any, .any, .any, .any, .any, .any, .any, .any, .any, .any, .any], [.ent ⟨0, none, 25, [.sl f 1 (zM ns), .sl g 1 (zL us)], .cells⟩]⟩) (fun i => xs.length - i.1) ⟨0, by simp⟩ (fun i => rfl) (fun i => zr rfl) (fun i => rfl) ⟨?_, Fq⟩ ?_
 ·exact Lq
 rintro ⟨i, hi, hno⟩
 by_cases hlt : (i : Int) < (xs.length : Int)
 ·have hx : xs[i]? = some xs[i] := List.getElem?_eq_getElem (by omega)
  obtain ⟨x, hx0⟩ : ∃ x, xs[i] = x := ⟨_, rfl⟩
  rw [hx0] at hx
  have hnot : (zBL us.length x) = false → xs.all (zBL us.length) = false := fun h => by
   rw [List.all_eq_false]; exact ⟨x, List.mem_of_getElem? hx, by rw [h]; simp⟩
  have hyes : (zBL us.length x) = true → ∀ (j : Nat) (y : Int × Int), j < i + 1 → xs[j]? = some y → (zBL us.length y) = true := fun h j y hj hy => by
   by_cases hji : j = i
   ·subst hji; rw [hx] at hy; cases hy; exact h
   ·exact hno j y (by omega) hy
  have h1 := zEJ f g ns us x.2
  obtain ⟨a1, ha1⟩ : ∃ b, decide (x.1 < -20) = b := ⟨_, rfl⟩
  obtain ⟨a2, ha2⟩ : ∃ b, decide (20 < x.1) = b := ⟨_, rfl⟩
  obtain ⟨a3, ha3⟩ : ∃ b, (!zn us.length x.2) = b := ⟨_, rfl⟩
  have hpe : zBL us.length x = (!(a1 || a2) && a3) := by
   rw [← ha1, ← ha2, ← ha3, zBL, inB]; congr 1; rw [Bool.eq_iff_iff]; simp
  rw [ha3] at h1
  cases a1
  case true =>
   repeat' first | (with_reducible first | refine zA ?_ | refine zB ?_ | refine zS ?_ | refine zg ?_ | refine zI ?_ | refine zJ ?_ | refine zG ?_) | ((with_reducible refine And.intro ?_ ?_); · exact Sq) | ((with_reducible refine zC fun KC J hJ hKC => ?_); simp (maxSteps := 9999999) only [push_cast, seval, ↓reduceIte, hlt, zAK hx, ha1, ha2, undef]) | ((with_reducible refine hJ _ _ ?_); clear hJ hKC KC J) | ((with_reducible refine zF ?_ ?_); · rfl)
   refine zE ?_
   simp (maxSteps := 9999999) only [push_cast, seval, ↓reduceIte, show Tryz.f158.results = #[(.tmp 4)] from rfl]
   rw [hnot (by rw [hpe]; first | rfl | (cases a2 <;> rfl))]
   exact Lq
  cases a2
  case true =>
   repeat' first | (with_reducible first | refine zA ?_ | refine zB ?_ | refine zS ?_ | refine zg ?_ | refine zI ?_ | refine zJ ?_ | refine zG ?_) | ((with_reducible refine And.intro ?_ ?_); · exact Sq) | ((with_reducible refine zC fun KC J hJ hKC => ?_); simp (maxSteps := 9999999) only [push_cast, seval, ↓reduceIte, hlt, zAK hx, ha1, ha2, undef]) | ((with_reducible refine hJ _ _ ?_); clear hJ hKC KC J) | ((with_reducible refine zF ?_ ?_); · rfl)
   refine zE ?_
   simp (maxSteps := 9999999) only [push_cast, seval, ↓reduceIte, show Tryz.f158.results = #[(.tmp 4)] from rfl]
   rw [hnot (by rw [hpe]; first | rfl | (cases a2 <;> rfl))]
   exact Lq
  cases a3
  case false =>
   repeat' first | (with_reducible first | refine zA ?_ | refine zB ?_ | refine zS ?_ | refine zg ?_ | refine zI ?_ | refine zJ ?_ | refine zG ?_) | ((with_reducible refine And.intro ?_ ?_); · exact Sq) | ((first | with_reducible refine zC fun KC J hJ hKC => ?_ | (refine hKC _ _ _ _ _ (zD (h1) rfl rfl rfl ?_ ?_); (· exact Lq))); simp (maxSteps := 9999999) only [push_cast, seval, ↓reduceIte, hlt, zAK hx, ha1, ha2, undef]) | ((with_reducible refine hJ _ _ ?_); clear hJ hKC KC J) | ((with_reducible refine zF ?_ ?_); · rfl)
   refine zE ?_
   simp (maxSteps := 9999999) only [push_cast, seval, ↓reduceIte, show Tryz.f158.results = #[(.tmp 4)] from rfl]
   rw [hnot (by rw [hpe]; rfl)]
   exact Lq
  repeat' first | (with_reducible first | refine zA ?_ | refine zB ?_ | refine zO ?_ | refine zJ ?_ | refine zG ?_) | ((with_reducible refine And.intro ?_ ?_); · exact Sq) | ((first | with_reducible refine zC fun KC J hJ hKC => ?_ | (refine hKC _ _ _ _ _ (zD (h1) rfl rfl rfl ?_ ?_); (· exact Lq))); simp (maxSteps := 9999999) only [push_cast, seval, ↓reduceIte, hlt, zAK hx, ha1, ha2, zb (i := i) (n := xs.length) (by omega) (by omega), undef]) | ((with_reducible refine hJ _ _ ?_); clear hJ hKC KC J) | ((with_reducible refine zF ?_ ?_); · rfl) | ((with_reducible refine zH ?_ ?_); · rfl)
  refine ⟨⟨i + 1, by omega, hyes (by rw [hpe]; rfl)⟩, by simp only; omega, ?_, ⟨_, rfl⟩⟩
  exact Lq
 have hin : i = xs.length := by omega
 have hall : xs.all (zBL us.length) = true := by
  rw [List.all_eq_true]
  intro x hx
  obtain ⟨j, hj⟩ := List.mem_iff_getElem?.1 hx
  exact hno j x (by have := (List.getElem?_eq_some_iff.1 hj).1; omega) hj
 repeat' first | (with_reducible first | refine zA ?_ | refine zB ?_ | refine zX ?_ | refine zW ?_ | refine zI ?_ | refine zQ ?_) | ((with_reducible refine zC fun KC J hJ hKC => ?_); simp (maxSteps := 9999999) only [push_cast, seval, ↓reduceIte, hlt]) | ((with_reducible refine hJ _ _ ?_); clear hJ hKC KC J) | ((with_reducible refine zH ?_ ?_); · rfl)
 refine zE ?_
 simp (maxSteps := 9999999) only [push_cast, seval, ↓reduceIte, show Tryz.f158.results = #[(.tmp 4)] from rfl]
 rw [hall]
 exact Lq
theorem zLq (f g h : Bool) (ns : List ByteArray) (us : List Nat) (xs : List (Bool × Int × Int)) (hl : xs.length ≤ 1000) :
  Fn Tryz.prog 159 [.agg [.sl f 1 (zM ns), .sl g 1 (zL us)], .sl h 3 (zc xs)] [] (.v (.bool (xs.all (zCC us.length) && decide (xs.length ≤ 12)))) [] := by
 refine Fn.of (fn := Tryz.f159) (by kernel_rfl) rfl (by kernel_rfl) ⟨[.agg [.sl f 1 (zM ns), .sl g 1 (zL us)], .sl h 3 (zc xs), .v undef, .v undef, .v undef, .v undef, .v undef, .v undef, .v undef, .v undef, .v undef, .v undef, .v undef, .v undef, .v undef, .v undef, .v undef, .v undef, .v undef, .v undef, .v undef, .v undef, .v undef, .v undef, .v undef, .v undef, .v undef, .v undef, .v undef, .v undef, .v undef, .v undef, .v undef, .v undef, .v undef, .v undef, .v undef, .v undef, .v undef, .v undef, .v undef, .v undef, .v undef, .v undef, .v undef, .v undef], []⟩ rfl ?_
 repeat' first | (with_reducible first | refine zA ?_ | refine zB ?_ | refine zG ?_) | ((with_reducible refine zC fun KC J hJ hKC => ?_); simp (maxSteps := 9999999) only [push_cast, seval, ↓reduceIte]) | ((with_reducible refine hJ _ _ ?_); clear hJ hKC KC J)
 refine zi 1 (γ := {i : Nat // i ≤ xs.length ∧ ∀ (j : Nat) (x : Bool × Int × Int), j < i → xs[j]? = some x → (zCC us.length x) = true}) (fun i => ⟨[.any, .sl h 3 (zc xs), .ptr 0 0 0, .any, .any, .any, .any, .sl h 3 (zc xs), .v (.int .i64 xs.length), .v (.int .i64 i.1), .any, .any, .any, .any, .any, .any, .any, .any, .any, .any, .any, .any, .any, .any, .any, .any, .any, .any, .any, .any, .any, .any, .any, .any, .any, .any, .any, .any, .any, .any, .any, .any, .any, .any, .any, .any], [.ent ⟨0, none, 25, [.sl f 1 (zM ns), .sl g 1 (zL us)], .cells⟩]⟩) (fun i => xs.length - i.1) ⟨0, by simp⟩ (fun i => rfl) (fun i => zr rfl) (fun i => rfl) ⟨?_, Fq⟩ ?_
 ·exact Lq
 rintro ⟨i, hi, hno⟩
 by_cases hlt : (i : Int) < (xs.length : Int)
 ·have hx : xs[i]? = some xs[i] := List.getElem?_eq_getElem (by omega)
  obtain ⟨x, hx0⟩ : ∃ x, xs[i] = x := ⟨_, rfl⟩
  rw [hx0] at hx
  have hnot : (zCC us.length x) = false → xs.all (zCC us.length) = false := fun h => by
   rw [List.all_eq_false]; exact ⟨x, List.mem_of_getElem? hx, by rw [h]; simp⟩
  have hyes : (zCC us.length x) = true → ∀ (j : Nat) (y : Bool × Int × Int), j < i + 1 → xs[j]? = some y → (zCC us.length y) = true := fun h j y hj hy => by
   by_cases hji : j = i
   ·subst hji; rw [hx] at hy; cases hy; exact h
   ·exact hno j y (by omega) hy
  obtain ⟨r, v, l⟩ := x
  have h1 := zEJ f g ns us l
  obtain ⟨a1, ha1⟩ : ∃ b, decide (v < -20) = b := ⟨_, rfl⟩
  obtain ⟨a2, ha2⟩ : ∃ b, decide (20 < v) = b := ⟨_, rfl⟩
  obtain ⟨a3, ha3⟩ : ∃ b, (!zn us.length l) = b := ⟨_, rfl⟩
  obtain ⟨a4, ha4⟩ : ∃ b, decide (v < 0) = b := ⟨_, rfl⟩
  obtain ⟨a5, ha5⟩ : ∃ b, decide (12 < v) = b := ⟨_, rfl⟩
  have hpe : zCC us.length (r, v, l) = (!(a1 || a2) && (a3 && !(r && (a4 || a5)))) := by
   rw [← ha1, ← ha2, ← ha3, ← ha4, ← ha5, zCC, inB, inB]
   cases r
   ·simp only [Bool.false_eq_true, if_false, Bool.false_and, Bool.not_false, Bool.and_true]
    rw [Bool.and_comm]; congr 1; rw [Bool.eq_iff_iff]; simp
   ·rw [Bool.eq_iff_iff]; simp; omega
  rw [ha3] at h1
  cases a1
  case true =>
   repeat' first | (with_reducible first | refine zA ?_ | refine zB ?_ | refine zS ?_ | refine zg ?_ | refine zI ?_ | refine zJ ?_ | refine zG ?_) | ((with_reducible refine And.intro ?_ ?_); · exact Sq) | ((with_reducible refine zC fun KC J hJ hKC => ?_); simp (maxSteps := 9999999) only [push_cast, seval, ↓reduceIte, hlt, zAJ hx, ha1, ha2, ha4, ha5, undef]) | ((with_reducible refine hJ _ _ ?_); clear hJ hKC KC J) | ((with_reducible refine zF ?_ ?_); · rfl)
   refine zE ?_
   simp (maxSteps := 9999999) only [push_cast, seval, ↓reduceIte, show Tryz.f159.results = #[(.tmp 4)] from rfl]
   rw [hnot (by rw [hpe]; first | rfl | (cases a2 <;> rfl))]
   exact Lq
  cases a2
  case true =>
   repeat' first | (with_reducible first | refine zA ?_ | refine zB ?_ | refine zS ?_ | refine zg ?_ | refine zI ?_ | refine zJ ?_ | refine zG ?_) | ((with_reducible refine And.intro ?_ ?_); · exact Sq) | ((with_reducible refine zC fun KC J hJ hKC => ?_); simp (maxSteps := 9999999) only [push_cast, seval, ↓reduceIte, hlt, zAJ hx, ha1, ha2, ha4, ha5, undef]) | ((with_reducible refine hJ _ _ ?_); clear hJ hKC KC J) | ((with_reducible refine zF ?_ ?_); · rfl)
   refine zE ?_
   simp (maxSteps := 9999999) only [push_cast, seval, ↓reduceIte, show Tryz.f159.results = #[(.tmp 4)] from rfl]
   rw [hnot (by rw [hpe]; first | rfl | (cases a2 <;> rfl))]
   exact Lq
  cases a3
  case false =>
   repeat' first | (with_reducible first | refine zA ?_ | refine zB ?_ | refine zS ?_ | refine zg ?_ | refine zI ?_ | refine zJ ?_ | refine zG ?_) | ((with_reducible refine And.intro ?_ ?_); · exact Sq) | ((first | with_reducible refine zC fun KC J hJ hKC => ?_ | (refine hKC _ _ _ _ _ (zD (h1) rfl rfl rfl ?_ ?_); (· exact Lq))); simp (maxSteps := 9999999) only [push_cast, seval, ↓reduceIte, hlt, zAJ hx, ha1, ha2, ha4, ha5, undef]) | ((with_reducible refine hJ _ _ ?_); clear hJ hKC KC J) | ((with_reducible refine zF ?_ ?_); · rfl)
   refine zE ?_
   simp (maxSteps := 9999999) only [push_cast, seval, ↓reduceIte, show Tryz.f159.results = #[(.tmp 4)] from rfl]
   rw [hnot (by rw [hpe]; rfl)]
   exact Lq
  cases r
  case false =>
   repeat' first | (with_reducible first | refine zA ?_ | refine zB ?_ | refine zO ?_ | refine zJ ?_ | refine zG ?_) | ((with_reducible refine And.intro ?_ ?_); · exact Sq) | ((first | with_reducible refine zC fun KC J hJ hKC => ?_ | (refine hKC _ _ _ _ _ (zD (h1) rfl rfl rfl ?_ ?_); (· exact Lq))); simp (maxSteps := 9999999) only [push_cast, seval, ↓reduceIte, hlt, zAJ hx, ha1, ha2, ha4, ha5, zb (i := i) (n := xs.length) (by omega) (by omega), undef]) | ((with_reducible refine hJ _ _ ?_); clear hJ hKC KC J) | ((with_reducible refine zF ?_ ?_); · rfl) | ((with_reducible refine zH ?_ ?_); · rfl)
   refine ⟨⟨i + 1, by omega, hyes (by rw [hpe]; rfl)⟩, by simp only; omega, ?_, ⟨_, rfl⟩⟩
   exact Lq
  cases a4
  case true =>
   repeat' first | (with_reducible first | refine zA ?_ | refine zB ?_ | refine zS ?_ | refine zg ?_ | refine zI ?_ | refine zJ ?_ | refine zG ?_) | ((with_reducible refine And.intro ?_ ?_); · exact Sq) | ((first | with_reducible refine zC fun KC J hJ hKC => ?_ | (refine hKC _ _ _ _ _ (zD (h1) rfl rfl rfl ?_ ?_); (· exact Lq))); simp (maxSteps := 9999999) only [push_cast, seval, ↓reduceIte, hlt, zAJ hx, ha1, ha2, ha4, ha5, undef]) | ((with_reducible refine hJ _ _ ?_); clear hJ hKC KC J) | ((with_reducible refine zF ?_ ?_); · rfl)
   refine zE ?_
   simp (maxSteps := 9999999) only [push_cast, seval, ↓reduceIte, show Tryz.f159.results = #[(.tmp 4)] from rfl]
   rw [hnot (by rw [hpe]; rfl)]
   exact Lq
  cases a5
  case true =>
   repeat' first | (with_reducible first | refine zA ?_ | refine zB ?_ | refine zS ?_ | refine zg ?_ | refine zI ?_ | refine zJ ?_ | refine zG ?_) | ((with_reducible refine And.intro ?_ ?_); · exact Sq) | ((first | with_reducible refine zC fun KC J hJ hKC => ?_ | (refine hKC _ _ _ _ _ (zD (h1) rfl rfl rfl ?_ ?_); (· exact Lq))); simp (maxSteps := 9999999) only [push_cast, seval, ↓reduceIte, hlt, zAJ hx, ha1, ha2, ha4, ha5, undef]) | ((with_reducible refine hJ _ _ ?_); clear hJ hKC KC J) | ((with_reducible refine zF ?_ ?_); · rfl)
   refine zE ?_
   simp (maxSteps := 9999999) only [push_cast, seval, ↓reduceIte, show Tryz.f159.results = #[(.tmp 4)] from rfl]
   rw [hnot (by rw [hpe]; rfl)]
   exact Lq
  repeat' first | (with_reducible first | refine zA ?_ | refine zB ?_ | refine zO ?_ | refine zJ ?_ | refine zG ?_) | ((with_reducible refine And.intro ?_ ?_); · exact Sq) | ((first | with_reducible refine zC fun KC J hJ hKC => ?_ | (refine hKC _ _ _ _ _ (zD (h1) rfl rfl rfl ?_ ?_); (· exact Lq))); simp (maxSteps := 9999999) only [push_cast, seval, ↓reduceIte, hlt, zAJ hx, ha1, ha2, ha4, ha5, zb (i := i) (n := xs.length) (by omega) (by omega), undef]) | ((with_reducible refine hJ _ _ ?_); clear hJ hKC KC J) | ((with_reducible refine zF ?_ ?_); · rfl) | ((with_reducible refine zH ?_ ?_); · rfl)
  refine ⟨⟨i + 1, by omega, hyes (by rw [hpe]; rfl)⟩, by simp only; omega, ?_, ⟨_, rfl⟩⟩
  exact Lq
 have hin : i = xs.length := by omega
 have hall : xs.all (zCC us.length) = true := by
  rw [List.all_eq_true]
  intro x hx
  obtain ⟨j, hj⟩ := List.mem_iff_getElem?.1 hx
  exact hno j x (by have := (List.getElem?_eq_some_iff.1 hj).1; omega) hj
 repeat' first | (with_reducible first | refine zA ?_ | refine zB ?_ | refine zX ?_ | refine zW ?_ | refine zI ?_ | refine zQ ?_) | ((with_reducible refine zC fun KC J hJ hKC => ?_); simp (maxSteps := 9999999) only [push_cast, seval, ↓reduceIte, hlt]) | ((with_reducible refine hJ _ _ ?_); clear hJ hKC KC J) | ((with_reducible refine zH ?_ ?_); · rfl)
 refine zE ?_
 simp (maxSteps := 9999999) only [push_cast, seval, ↓reduceIte, show Tryz.f159.results = #[(.tmp 4)] from rfl]
 rw [hall, Bool.true_and, show decide (xs.length ≤ 12) = decide ((xs.length : Int) ≤ 12) from decide_eq_decide.2 (by omega)]
 exact Lq
theorem zLx (f g : Bool) (ns : List ByteArray) (us : List Nat) (s : Sta) (hl : Sml s) : Fn Tryz.prog 65 [.agg [.sl f 1 (zM ns), .sl g 1 (zL us)], .agg (zAN false false false false s)] [] (.v (.bool (zEs us.length s))) [] := by
 obtain ⟨l1, l2, l3, l4⟩ := hl
 have h1 := zLF f g false ns us s.code l1
 have h2 := zEJ f g ns us s.l
 have h3 := zGq f g false ns us s.mem l2
 have h4 := zLq f g false ns us s.stack l3
 have h5 := zGq f g false ns us s.out l4
 have he : zEs us.length s = (zDL us.length s.code && (!decide (s.v < 0) && (!decide (12 < s.v) && ((!zn us.length s.l) && (s.mem.all (zBL us.length) && (decide (s.mem.length ≤ 6) && ((s.stack.all (zCC us.length) && decide (s.stack.length ≤ 12)) && (s.out.all (zBL us.length) && decide (s.out.length ≤ 8))))))))) := by
  have hi : inB 0 12 s.v = (!decide (s.v < 0) && !decide (12 < s.v)) := by rw [Bool.eq_iff_iff]; simp [inB]
  rw [zEs, hi]
  simp only [Bool.and_assoc]
 rw [he]
 obtain ⟨c1, hc1⟩ : ∃ x, zDL us.length s.code = x := ⟨_, rfl⟩
 obtain ⟨c2, hc2⟩ : ∃ x, decide (s.v < 0) = x := ⟨_, rfl⟩
 obtain ⟨c3, hc3⟩ : ∃ x, decide (12 < s.v) = x := ⟨_, rfl⟩
 obtain ⟨c4, hc4⟩ : ∃ x, (!zn us.length s.l) = x := ⟨_, rfl⟩
 obtain ⟨c5, hc5⟩ : ∃ x, s.mem.all (zBL us.length) = x := ⟨_, rfl⟩
 obtain ⟨c6, hc6⟩ : ∃ x, decide (s.mem.length ≤ 6) = x := ⟨_, rfl⟩
 obtain ⟨c7, hc7⟩ : ∃ x, (s.stack.all (zCC us.length) && decide (s.stack.length ≤ 12)) = x := ⟨_, rfl⟩
 obtain ⟨c8, hc8⟩ : ∃ x, s.out.all (zBL us.length) = x := ⟨_, rfl⟩
 have hc6' : decide ((s.mem.length : Int) ≤ 6) = c6 := by rw [← hc6]; exact decide_eq_decide.2 (by omega)
 have hc9' : decide ((s.out.length : Int) ≤ 8) = decide (s.out.length ≤ 8) := decide_eq_decide.2 (by omega)
 rw [hc1] at h1 ⊢
 rw [hc4] at h2 ⊢
 rw [hc5] at h3 ⊢
 rw [hc7] at h4 ⊢
 rw [hc8] at h5 ⊢
 rw [hc2, hc3, hc6]
 simp only [zAN]
 refine Fn.of (fn := Tryz.f65) (by kernel_rfl) rfl (by kernel_rfl) ⟨[.agg [.sl f 1 (zM ns), .sl g 1 (zL us)], .agg [.v (.int .i64 s.v), .v (.int .i64 s.l), .sl false 3 (zh s.code), .sl false 2 (zR s.mem), .sl false 3 (zc s.stack), .sl false 2 (zR s.out)], .v undef, .v undef, .v undef, .v undef, .v undef, .v undef, .v undef, .v undef, .v undef, .v undef, .v undef, .v undef, .v undef, .v undef, .v undef, .v undef, .v undef, .v undef, .v undef, .v undef, .v undef, .v undef, .v undef, .v undef, .v undef, .v undef, .v undef, .v undef, .v undef, .v undef, .v undef, .v undef, .v undef, .v undef, .v undef, .v undef, .v undef, .v undef, .v undef, .v undef, .v undef, .v undef, .v undef, .v undef, .v undef, .v undef, .v undef, .v undef, .v undef, .v undef, .v undef, .v undef, .v undef, .v undef, .v undef, .v undef], []⟩ rfl ?_
 cases c1
 case false =>
  repeat' first | (with_reducible first | refine zA ?_ | refine zB ?_ | refine zS ?_ | refine zI ?_) | ((first | with_reducible refine zC fun KC J hJ hKC => ?_ | (refine hKC _ _ _ _ _ (zD (h1) rfl rfl rfl ?_ ?_); (· exact Lq))); simp (maxSteps := 9999999) only [push_cast, seval, ↓reduceIte, hc2, hc3, hc6', hc9', undef]) | ((with_reducible refine hJ _ _ ?_); clear hJ hKC KC J) | ((with_reducible refine zF ?_ ?_); · rfl)
  refine zE ?_
  simp (maxSteps := 9999999) only [push_cast, seval, ↓reduceIte, show Tryz.f65.results = #[(.tmp 4)] from rfl]
  exact Lq
 cases c2
 case true =>
  repeat' first | (with_reducible first | refine zA ?_ | refine zB ?_ | refine zS ?_ | refine zI ?_) | ((first | with_reducible refine zC fun KC J hJ hKC => ?_ | (refine hKC _ _ _ _ _ (zD (h1) rfl rfl rfl ?_ ?_); (· exact Lq))); simp (maxSteps := 9999999) only [push_cast, seval, ↓reduceIte, hc2, hc3, hc6', hc9', undef]) | ((with_reducible refine hJ _ _ ?_); clear hJ hKC KC J) | ((with_reducible refine zF ?_ ?_); · rfl)
  refine zE ?_
  simp (maxSteps := 9999999) only [push_cast, seval, ↓reduceIte, show Tryz.f65.results = #[(.tmp 4)] from rfl]
  exact Lq
 cases c3
 case true =>
  repeat' first | (with_reducible first | refine zA ?_ | refine zB ?_ | refine zS ?_ | refine zI ?_) | ((first | with_reducible refine zC fun KC J hJ hKC => ?_ | (refine hKC _ _ _ _ _ (zD (h1) rfl rfl rfl ?_ ?_); (· exact Lq))); simp (maxSteps := 9999999) only [push_cast, seval, ↓reduceIte, hc2, hc3, hc6', hc9', undef]) | ((with_reducible refine hJ _ _ ?_); clear hJ hKC KC J) | ((with_reducible refine zF ?_ ?_); · rfl)
  refine zE ?_
  simp (maxSteps := 9999999) only [push_cast, seval, ↓reduceIte, show Tryz.f65.results = #[(.tmp 4)] from rfl]
  exact Lq
 cases c4
 case false =>
  repeat' first | (with_reducible first | refine zA ?_ | refine zB ?_ | refine zS ?_ | refine zI ?_) | ((first | with_reducible refine zC fun KC J hJ hKC => ?_ | (refine hKC _ _ _ _ _ (zD (h1) rfl rfl rfl ?_ ?_); (· exact Lq)) | (refine hKC _ _ _ _ _ (zD (h2) rfl rfl rfl ?_ ?_); (· exact Lq))); simp (maxSteps := 9999999) only [push_cast, seval, ↓reduceIte, hc2, hc3, hc6', hc9', undef]) | ((with_reducible refine hJ _ _ ?_); clear hJ hKC KC J) | ((with_reducible refine zF ?_ ?_); · rfl)
  refine zE ?_
  simp (maxSteps := 9999999) only [push_cast, seval, ↓reduceIte, show Tryz.f65.results = #[(.tmp 4)] from rfl]
  exact Lq
 cases c5
 case false =>
  repeat' first | (with_reducible first | refine zA ?_ | refine zB ?_ | refine zI ?_ | refine zJ ?_) | ((first | with_reducible refine zC fun KC J hJ hKC => ?_ | (refine hKC _ _ _ _ _ (zD (h1) rfl rfl rfl ?_ ?_); (· exact Lq)) | (refine hKC _ _ _ _ _ (zD (h2) rfl rfl rfl ?_ ?_); (· exact Lq)) | (refine hKC _ _ _ _ _ (zD (h3) rfl rfl rfl ?_ ?_); (· exact Lq))); simp (maxSteps := 9999999) only [push_cast, seval, ↓reduceIte, hc2, hc3, hc6', hc9', undef]) | ((with_reducible refine hJ _ _ ?_); clear hJ hKC KC J) | ((with_reducible refine zH ?_ ?_); · rfl)
  refine zE ?_
  simp (maxSteps := 9999999) only [push_cast, seval, ↓reduceIte, show Tryz.f65.results = #[(.tmp 4)] from rfl]
  exact Lq
 cases c6
 case false =>
  repeat' first | (with_reducible first | refine zA ?_ | refine zB ?_ | refine zI ?_ | refine zJ ?_) | ((first | with_reducible refine zC fun KC J hJ hKC => ?_ | (refine hKC _ _ _ _ _ (zD (h1) rfl rfl rfl ?_ ?_); (· exact Lq)) | (refine hKC _ _ _ _ _ (zD (h2) rfl rfl rfl ?_ ?_); (· exact Lq)) | (refine hKC _ _ _ _ _ (zD (h3) rfl rfl rfl ?_ ?_); (· exact Lq))); simp (maxSteps := 9999999) only [push_cast, seval, ↓reduceIte, hc2, hc3, hc6', hc9', undef]) | ((with_reducible refine hJ _ _ ?_); clear hJ hKC KC J) | ((with_reducible refine zH ?_ ?_); · rfl)
  refine zE ?_
  simp (maxSteps := 9999999) only [push_cast, seval, ↓reduceIte, show Tryz.f65.results = #[(.tmp 4)] from rfl]
  exact Lq
 cases c7
 case false =>
  repeat' first | (with_reducible first | refine zA ?_ | refine zB ?_ | refine zI ?_ | refine zJ ?_) | ((first | with_reducible refine zC fun KC J hJ hKC => ?_ | (refine hKC _ _ _ _ _ (zD (h1) rfl rfl rfl ?_ ?_); (· exact Lq)) | (refine hKC _ _ _ _ _ (zD (h2) rfl rfl rfl ?_ ?_); (· exact Lq)) | (refine hKC _ _ _ _ _ (zD (h3) rfl rfl rfl ?_ ?_); (· exact Lq)) | (refine hKC _ _ _ _ _ (zD (h4) rfl rfl rfl ?_ ?_); (· exact Lq))); simp (maxSteps := 9999999) only [push_cast, seval, ↓reduceIte, hc2, hc3, hc6', hc9', undef]) | ((with_reducible refine hJ _ _ ?_); clear hJ hKC KC J) | ((with_reducible refine zH ?_ ?_); · rfl)
  refine zE ?_
  simp (maxSteps := 9999999) only [push_cast, seval, ↓reduceIte, show Tryz.f65.results = #[(.tmp 4)] from rfl]
  exact Lq
 cases c8
 case false =>
  repeat' first | (with_reducible first | refine zA ?_ | refine zB ?_ | refine zI ?_ | refine zJ ?_) | ((first | with_reducible refine zC fun KC J hJ hKC => ?_ | (refine hKC _ _ _ _ _ (zD (h1) rfl rfl rfl ?_ ?_); (· exact Lq)) | (refine hKC _ _ _ _ _ (zD (h2) rfl rfl rfl ?_ ?_); (· exact Lq)) | (refine hKC _ _ _ _ _ (zD (h3) rfl rfl rfl ?_ ?_); (· exact Lq)) | (refine hKC _ _ _ _ _ (zD (h4) rfl rfl rfl ?_ ?_); (· exact Lq)) | (refine hKC _ _ _ _ _ (zD (h5) rfl rfl rfl ?_ ?_); (· exact Lq))); simp (maxSteps := 9999999) only [push_cast, seval, ↓reduceIte, hc2, hc3, hc6', hc9', undef]) | ((with_reducible refine hJ _ _ ?_); clear hJ hKC KC J) | ((with_reducible refine zH ?_ ?_); · rfl)
  refine zE ?_
  simp (maxSteps := 9999999) only [push_cast, seval, ↓reduceIte, show Tryz.f65.results = #[(.tmp 4)] from rfl]
  exact Lq
 repeat' first | (with_reducible first | refine zA ?_ | refine zB ?_ | refine zI ?_ | refine zJ ?_) | ((first | with_reducible refine zC fun KC J hJ hKC => ?_ | (refine hKC _ _ _ _ _ (zD (h1) rfl rfl rfl ?_ ?_); (· exact Lq)) | (refine hKC _ _ _ _ _ (zD (h2) rfl rfl rfl ?_ ?_); (· exact Lq)) | (refine hKC _ _ _ _ _ (zD (h3) rfl rfl rfl ?_ ?_); (· exact Lq)) | (refine hKC _ _ _ _ _ (zD (h4) rfl rfl rfl ?_ ?_); (· exact Lq)) | (refine hKC _ _ _ _ _ (zD (h5) rfl rfl rfl ?_ ?_); (· exact Lq))); simp (maxSteps := 9999999) only [push_cast, seval, ↓reduceIte, hc2, hc3, hc6', hc9', undef]) | ((with_reducible refine hJ _ _ ?_); clear hJ hKC KC J) | ((with_reducible refine zH ?_ ?_); · rfl)
 refine zE ?_
 simp (maxSteps := 9999999) only [push_cast, seval, ↓reduceIte, show Tryz.f65.results = #[(.tmp 4)] from rfl]
 exact Lq
theorem zPF (h : Bool) (sp : Sp) (v : Int) (h0 : 0 ≤ sp.val) (h1 : sp.val ≤ 20) : Fn Tryz.prog 81 [.agg (spF h sp), .v (.int .i64 v)] [] (.v (.bool (inB (-sp.val) sp.val v))) [] := by
 have hw : IntKind.i64.wrap (0 - sp.val) = -sp.val := by rw [zCP (by omega) (by omega)]; omega
 obtain ⟨x, hx⟩ : ∃ x, decide (-sp.val ≤ v) = x := ⟨_, rfl⟩
 rw [inB, hx]
 simp only [spF]
 refine Fn.of (fn := Tryz.f81) (by kernel_rfl) rfl (by kernel_rfl) ⟨[.agg [.v (.int .i64 sp.code), .v (.int .i64 sp.mem), .v (.int .i64 sp.stack), .v (.int .i64 sp.val), .sl h 1 (zK sp.ws)], .v (.int .i64 v), .v undef, .v undef, .v undef, .v undef, .v undef, .v undef, .v undef, .v undef, .v undef, .v undef, .v undef, .v undef, .v undef, .v undef], []⟩ rfl ?_
 cases x
 all_goals
  repeat' first | (with_reducible first | refine zA ?_ | refine zB ?_ | refine zI ?_) | ((with_reducible refine zC fun KC J hJ hKC => ?_); simp (maxSteps := 9999999) only [push_cast, seval, ↓reduceIte, hw, hx, undef]) | ((with_reducible refine hJ _ _ ?_); clear hJ hKC KC J)
  refine zE ?_
  simp (maxSteps := 9999999) only [push_cast, seval, ↓reduceIte, show Tryz.f81.results = #[(.tmp 4)] from rfl]
  exact Lq
theorem zGd (f g h : Bool) (ns : List ByteArray) (us : List Nat) (sp : Sp) (s : Sta) (hsp : SpOk sp) (hl : Sml s) :
  Fn Tryz.prog 38 [.agg [.sl f 1 (zM ns), .sl g 1 (zL us)], .agg (spF h sp), .agg (zAN false false false false s)] [] (.v (.bool (zDE us.length sp s))) [] := by
 have h1 := zLx f g ns us s hl
 obtain ⟨l1, l2, l3, l4⟩ := hl
 have hwl := hsp.wl
 have hst : zEs us.length s = true → ∀ x ∈ s.code, 0 ≤ x.1 ∧ x.1 < sp.ws.length := fun hh x hx => by
  simp only [zEs, zDL, Bool.and_eq_true, List.all_eq_true] at hh
  have := zJq (hh.1.1 x hx)
  rw [hsp.wl]; exact this
 have hnear := fun v => zPF h sp v hsp.v0 hsp.v1
 have he : zDE us.length sp s = (zEs us.length s && (!decide (sp.code < (s.code.length : Int)) && (!decide (sp.mem < (s.mem.length : Int)) && (!decide (sp.stack < (s.stack.length : Int)) && (!decide (0 < (s.out.length : Int)) &&
  (s.code.all (zBE sp) && (s.mem.all (zDS sp) && s.stack.all (zDW sp)))))))) := by
  have e1 : ∀ a b : Int, decide (a ≤ b) = !decide (b < a) := fun a b => by rw [Bool.eq_iff_iff]; simp
  have e2 : decide (s.out.length = 0) = !decide (0 < (s.out.length : Int)) := by rw [Bool.eq_iff_iff]; simp
  rw [zDE, e1, e1, e1, e2]; rfl
 rw [he]
 obtain ⟨c1, hc1⟩ : ∃ x, zEs us.length s = x := ⟨_, rfl⟩
 obtain ⟨d1, hd1⟩ : ∃ x, decide (sp.code < (s.code.length : Int)) = x := ⟨_, rfl⟩
 obtain ⟨d2, hd2⟩ : ∃ x, decide (sp.mem < (s.mem.length : Int)) = x := ⟨_, rfl⟩
 obtain ⟨d3, hd3⟩ : ∃ x, decide (sp.stack < (s.stack.length : Int)) = x := ⟨_, rfl⟩
 obtain ⟨d4, hd4⟩ : ∃ x, decide (0 < (s.out.length : Int)) = x := ⟨_, rfl⟩
 rw [hc1] at h1 hst ⊢
 rw [hd1, hd2, hd3, hd4]
 simp only [spF, zAN] at h1 hnear ⊢
 refine Fn.of (fn := Tryz.f38) (by kernel_rfl) rfl (by kernel_rfl) ⟨[.agg [.sl f 1 (zM ns), .sl g 1 (zL us)], .agg [.v (.int .i64 sp.code), .v (.int .i64 sp.mem), .v (.int .i64 sp.stack), .v (.int .i64 sp.val), .sl h 1 (zK sp.ws)], .agg [.v (.int .i64 s.v), .v (.int .i64 s.l), .sl false 3 (zh s.code), .sl false 2 (zR s.mem), .sl false 3 (zc s.stack), .sl false 2 (zR s.out)], .v undef, .v undef, .v undef, .v undef, .v undef, .v undef, .v undef, .v undef, .v undef, .v undef, .v undef, .v undef, .v undef, .v undef, .v undef, .v undef, .v undef, .v undef, .v undef, .v undef, .v undef, .v undef, .v undef, .v undef, .v undef, .v undef, .v undef, .v undef, .v undef, .v undef, .v undef, .v undef, .v undef, .v undef, .v undef, .v undef, .v undef, .v undef, .v undef, .v undef, .v undef, .v undef, .v undef, .v undef, .v undef, .v undef, .v undef, .v undef, .v undef, .v undef, .v undef, .v undef, .v undef, .v undef, .v undef, .v undef, .v undef, .v undef, .v undef, .v undef, .v undef, .v undef, .v undef, .v undef, .v undef, .v undef, .v undef, .v undef, .v undef, .v undef, .v undef, .v undef, .v undef, .v undef, .v undef, .v undef, .v undef, .v undef, .v undef, .v undef, .v undef, .v undef, .v undef, .v undef, .v undef, .v undef, .v undef, .v undef, .v undef, .v undef, .v undef, .v undef, .v undef, .v undef, .v undef, .v undef, .v undef, .v undef, .v undef, .v undef, .v undef, .v undef], []⟩ rfl ?_
 cases c1
 case false =>
  repeat' first | (with_reducible first | refine zA ?_ | refine zB ?_ | refine zS ?_ | refine zI ?_) | ((first | with_reducible refine zC fun KC J hJ hKC => ?_ | (refine hKC _ _ _ _ _ (zD (h1) rfl rfl rfl ?_ ?_); (· exact Lq))); simp (maxSteps := 9999999) only [push_cast, seval, ↓reduceIte, hd1, hd2, hd3, hd4, undef]) | ((with_reducible refine hJ _ _ ?_); clear hJ hKC KC J) | ((with_reducible refine zF ?_ ?_); · rfl)
  refine zE ?_
  simp (maxSteps := 9999999) only [push_cast, seval, ↓reduceIte, show Tryz.f38.results = #[(.tmp 6)] from rfl]
  exact Lq
 cases d1
 case true =>
  repeat' first | (with_reducible first | refine zA ?_ | refine zB ?_ | refine zS ?_ | refine zI ?_) | ((first | with_reducible refine zC fun KC J hJ hKC => ?_ | (refine hKC _ _ _ _ _ (zD (h1) rfl rfl rfl ?_ ?_); (· exact Lq))); simp (maxSteps := 9999999) only [push_cast, seval, ↓reduceIte, hd1, hd2, hd3, hd4, undef]) | ((with_reducible refine hJ _ _ ?_); clear hJ hKC KC J) | ((with_reducible refine zF ?_ ?_); · rfl)
  refine zE ?_
  simp (maxSteps := 9999999) only [push_cast, seval, ↓reduceIte, show Tryz.f38.results = #[(.tmp 6)] from rfl]
  exact Lq
 cases d2
 case true =>
  repeat' first | (with_reducible first | refine zA ?_ | refine zB ?_ | refine zS ?_ | refine zI ?_) | ((first | with_reducible refine zC fun KC J hJ hKC => ?_ | (refine hKC _ _ _ _ _ (zD (h1) rfl rfl rfl ?_ ?_); (· exact Lq))); simp (maxSteps := 9999999) only [push_cast, seval, ↓reduceIte, hd1, hd2, hd3, hd4, undef]) | ((with_reducible refine hJ _ _ ?_); clear hJ hKC KC J) | ((with_reducible refine zF ?_ ?_); · rfl)
  refine zE ?_
  simp (maxSteps := 9999999) only [push_cast, seval, ↓reduceIte, show Tryz.f38.results = #[(.tmp 6)] from rfl]
  exact Lq
 cases d3
 case true =>
  repeat' first | (with_reducible first | refine zA ?_ | refine zB ?_ | refine zS ?_ | refine zI ?_) | ((first | with_reducible refine zC fun KC J hJ hKC => ?_ | (refine hKC _ _ _ _ _ (zD (h1) rfl rfl rfl ?_ ?_); (· exact Lq))); simp (maxSteps := 9999999) only [push_cast, seval, ↓reduceIte, hd1, hd2, hd3, hd4, undef]) | ((with_reducible refine hJ _ _ ?_); clear hJ hKC KC J) | ((with_reducible refine zF ?_ ?_); · rfl)
  refine zE ?_
  simp (maxSteps := 9999999) only [push_cast, seval, ↓reduceIte, show Tryz.f38.results = #[(.tmp 6)] from rfl]
  exact Lq
 cases d4
 case true =>
  repeat' first | (with_reducible first | refine zA ?_ | refine zB ?_ | refine zS ?_ | refine zI ?_) | ((first | with_reducible refine zC fun KC J hJ hKC => ?_ | (refine hKC _ _ _ _ _ (zD (h1) rfl rfl rfl ?_ ?_); (· exact Lq))); simp (maxSteps := 9999999) only [push_cast, seval, ↓reduceIte, hd1, hd2, hd3, hd4, undef]) | ((with_reducible refine hJ _ _ ?_); clear hJ hKC KC J) | ((with_reducible refine zF ?_ ?_); · rfl)
  refine zE ?_
  simp (maxSteps := 9999999) only [push_cast, seval, ↓reduceIte, show Tryz.f38.results = #[(.tmp 6)] from rfl]
  exact Lq
 have hst := hst rfl
 repeat' first | (with_reducible first | refine zA ?_ | refine zB ?_ | refine zJ ?_ | refine zG ?_) | ((first | with_reducible refine zC fun KC J hJ hKC => ?_ | (refine hKC _ _ _ _ _ (zD (h1) rfl rfl rfl ?_ ?_); (· exact Lq))); simp (maxSteps := 9999999) only [push_cast, seval, ↓reduceIte, hd1, hd2, hd3, hd4, undef]) | ((with_reducible refine hJ _ _ ?_); clear hJ hKC KC J) | ((with_reducible refine zH ?_ ?_); · rfl)
 refine zi 3 (γ := {i : Nat // i ≤ s.code.length ∧ ∀ (j : Nat) (x : Int × Int × Int), j < i → s.code[j]? = some x → zBE sp x = true}) (fun i => ⟨[.any, .any, .any, .ptr 0 0 0, .ptr 1 0 0, .ptr 2 0 0, .any, .any, .any, .any, .any, .any, .any, .any, .any, .any, .any, .any, .any, .any, .any, .any, .any, .any, .any, .any, .any, .any, .any, .any, .any, .any, .any, .any, .any, .any, .any, .any, .any, .any, .any, .any, .any, .any, .any, .any, .any, .any, .sl false 3 (zh s.code), .v (.int .i64 s.code.length), .v (.int .i64 i.1), .any, .any, .any, .any, .any, .any, .any, .any, .any, .any, .any, .any, .any, .any, .any, .any, .any, .any, .any, .any, .any, .any, .any, .any, .any, .any, .any, .any, .any, .any, .any, .any, .any, .any, .any, .any, .any, .any, .any, .any, .any, .any, .any, .any, .any, .any, .any, .any, .any, .any, .any, .any, .any, .any], [.ent ⟨0, none, 25, [.sl f 1 (zM ns), .sl g 1 (zL us)], .cells⟩, .ent ⟨0, none, 28, [.v (.int .i64 sp.code), .v (.int .i64 sp.mem), .v (.int .i64 sp.stack), .v (.int .i64 sp.val), .sl h 1 (zK sp.ws)], .cells⟩, .ent ⟨0, none, 39, [.v (.int .i64 s.v), .v (.int .i64 s.l), .sl false 3 (zh s.code), .sl false 2 (zR s.mem), .sl false 3 (zc s.stack), .sl false 2 (zR s.out)], .cells⟩]⟩) (fun i => s.code.length - i.1) ⟨0, by simp⟩ (fun i => rfl) (fun i => zr rfl) (fun i => rfl) ⟨?_, Fq⟩ ?_
 ·exact Lq
 rintro ⟨i, hi, hno⟩
 by_cases hlt : (i : Int) < (s.code.length : Int)
 ·have hx : s.code[i]? = some s.code[i] := List.getElem?_eq_getElem (by omega)
  obtain ⟨x, hx0⟩ : ∃ x, s.code[i] = x := ⟨_, rfl⟩
  rw [hx0] at hx
  have hnot : zBE sp x = false → s.code.all (zBE sp) = false := fun h => by
   rw [List.all_eq_false]; exact ⟨x, List.mem_of_getElem? hx, by rw [h]; simp⟩
  have hyes : zBE sp x = true → ∀ (j : Nat) (y : Int × Int × Int), j < i + 1 → s.code[j]? = some y → zBE sp y = true := fun h j y hj hy => by
   by_cases hji : j = i
   ·subst hji; rw [hx] at hy; cases hy; exact h
   ·exact hno j y (by omega) hy
  have hxr := hst x (List.mem_of_getElem? hx)
  obtain ⟨o, v, l⟩ := x
  simp only at hxr
  obtain ⟨k, rfl⟩ : ∃ k : Nat, o = k := ⟨o.toNat, by omega⟩
  have h2 := hnear v
  have hk : sp.ws[k]? = some sp.ws[k] := List.getElem?_eq_getElem (by omega)
  obtain ⟨w, hw0⟩ : ∃ w, sp.ws[k] = w := ⟨_, rfl⟩
  rw [hw0] at hk
  have hg : sp.ws.getD k 0 = w := by rw [List.getD_eq_getElem?_getD, hk]; rfl
  have hpe : zBE sp ((k : Int), v, l) = (!(w == 0) && (!((k : Int) == 1) || inB (-sp.val) sp.val v)) := by
   simp only [zBE, Int.toNat_natCast, zKC]
   rw [hg]
  obtain ⟨a, ha⟩ : ∃ a, (w == 0) = a := ⟨_, rfl⟩
  obtain ⟨b, hb⟩ : ∃ b, ((k : Int) == 1) = b := ⟨_, rfl⟩
  obtain ⟨c, hc⟩ : ∃ c, inB (-sp.val) sp.val v = c := ⟨_, rfl⟩
  rw [ha, hb, hc] at hpe
  rw [hc] at h2
  cases a
  case true =>
   repeat' first | (with_reducible first | refine zA ?_ | refine zB ?_ | refine zS ?_ | refine zg ?_ | refine zI ?_ | refine zJ ?_ | refine zG ?_) | ((with_reducible refine And.intro ?_ ?_); · exact Sq) | ((with_reducible refine zC fun KC J hJ hKC => ?_); simp (maxSteps := 9999999) only [push_cast, seval, ↓reduceIte, hlt, zAp hx, zo hk, ha, hb, undef]) | ((with_reducible refine hJ _ _ ?_); clear hJ hKC KC J) | ((with_reducible refine zF ?_ ?_); · rfl)
   refine zE ?_
   simp (maxSteps := 9999999) only [push_cast, seval, ↓reduceIte, show Tryz.f38.results = #[(.tmp 6)] from rfl]
   rw [hnot (by rw [hpe]; rfl)]
   exact Lq
  cases b
  case false =>
   repeat' first | (with_reducible first | refine zA ?_ | refine zB ?_ | refine zO ?_ | refine zJ ?_ | refine zG ?_) | ((with_reducible refine And.intro ?_ ?_); · exact Sq) | ((with_reducible refine zC fun KC J hJ hKC => ?_); simp (maxSteps := 9999999) only [push_cast, seval, ↓reduceIte, hlt, zAp hx, zo hk, ha, hb, zb (i := i) (n := s.code.length) (by omega) (by omega), undef]) | ((with_reducible refine hJ _ _ ?_); clear hJ hKC KC J) | ((with_reducible refine zF ?_ ?_); · rfl) | ((with_reducible refine zH ?_ ?_); · rfl)
   refine ⟨⟨i + 1, by omega, hyes (by rw [hpe]; rfl)⟩, by simp only; omega, ?_, ⟨_, rfl⟩⟩
   exact Lq
  cases c
  case false =>
   repeat' first | (with_reducible first | refine zA ?_ | refine zB ?_ | refine zS ?_ | refine zg ?_ | refine zI ?_ | refine zJ ?_ | refine zG ?_) | ((with_reducible refine And.intro ?_ ?_); · exact Sq) | ((first | with_reducible refine zC fun KC J hJ hKC => ?_ | (refine hKC _ _ _ _ _ (zD (h2) rfl rfl rfl ?_ ?_); (· exact Lq))); simp (maxSteps := 9999999) only [push_cast, seval, ↓reduceIte, hlt, zAp hx, zo hk, ha, hb, undef]) | ((with_reducible refine hJ _ _ ?_); clear hJ hKC KC J) | ((with_reducible refine zF ?_ ?_); · rfl)
   refine zE ?_
   simp (maxSteps := 9999999) only [push_cast, seval, ↓reduceIte, show Tryz.f38.results = #[(.tmp 6)] from rfl]
   rw [hnot (by rw [hpe]; rfl)]
   exact Lq
  repeat' first | (with_reducible first | refine zA ?_ | refine zB ?_ | refine zO ?_ | refine zJ ?_ | refine zG ?_) | ((with_reducible refine And.intro ?_ ?_); · exact Sq) | ((first | with_reducible refine zC fun KC J hJ hKC => ?_ | (refine hKC _ _ _ _ _ (zD (h2) rfl rfl rfl ?_ ?_); (· exact Lq))); simp (maxSteps := 9999999) only [push_cast, seval, ↓reduceIte, hlt, zAp hx, zo hk, ha, hb, zb (i := i) (n := s.code.length) (by omega) (by omega), undef]) | ((with_reducible refine hJ _ _ ?_); clear hJ hKC KC J) | ((with_reducible refine zF ?_ ?_); · rfl) | ((with_reducible refine zH ?_ ?_); · rfl)
  refine ⟨⟨i + 1, by omega, hyes (by rw [hpe]; rfl)⟩, by simp only; omega, ?_, ⟨_, rfl⟩⟩
  exact Lq
 have hall1 : s.code.all (zBE sp) = true := by
  rw [List.all_eq_true]
  intro x hx
  obtain ⟨j, hj⟩ := List.mem_iff_getElem?.1 hx
  exact hno j x (by have := (List.getElem?_eq_some_iff.1 hj).1; omega) hj
 repeat' first | (with_reducible first | refine zA ?_ | refine zB ?_ | refine zX ?_ | refine zW ?_ | refine zQ ?_ | refine zG ?_) | ((with_reducible refine zC fun KC J hJ hKC => ?_); simp (maxSteps := 9999999) only [push_cast, seval, ↓reduceIte, hlt]) | ((with_reducible refine hJ _ _ ?_); clear hJ hKC KC J) | ((with_reducible refine zH ?_ ?_); · rfl)
 clear hlt hno hi
 refine zi 3 (γ := {i : Nat // i ≤ s.mem.length ∧ ∀ (j : Nat) (x : Int × Int), j < i → s.mem[j]? = some x → zDS sp x = true}) (fun i => ⟨[.any, .any, .any, .ptr 0 0 0, .ptr 1 0 0, .ptr 2 0 0, .any, .any, .any, .any, .any, .any, .any, .any, .any, .any, .any, .any, .any, .any, .any, .any, .any, .any, .any, .any, .any, .any, .any, .any, .any, .any, .any, .any, .any, .any, .any, .any, .any, .any, .any, .any, .any, .any, .any, .any, .any, .any, .any, .any, .any, .any, .any, .any, .any, .any, .any, .any, .any, .any, .any, .any, .any, .any, .any, .any, .any, .any, .any, .any, .any, .any, .any, .any, .any, .sl false 2 (zR s.mem), .v (.int .i64 s.mem.length), .v (.int .i64 i.1), .any, .any, .any, .any, .any, .any, .any, .any, .any, .any, .any, .any, .any, .any, .any, .any, .any, .any, .any, .any, .any, .any, .any, .any, .any, .any, .any], [.ent ⟨0, none, 25, [.sl f 1 (zM ns), .sl g 1 (zL us)], .cells⟩, .ent ⟨0, none, 28, [.v (.int .i64 sp.code), .v (.int .i64 sp.mem), .v (.int .i64 sp.stack), .v (.int .i64 sp.val), .sl h 1 (zK sp.ws)], .cells⟩, .ent ⟨0, none, 39, [.v (.int .i64 s.v), .v (.int .i64 s.l), .sl false 3 (zh s.code), .sl false 2 (zR s.mem), .sl false 3 (zc s.stack), .sl false 2 (zR s.out)], .cells⟩]⟩) (fun i => s.mem.length - i.1) ⟨0, by simp⟩ (fun i => rfl) (fun i => zr rfl) (fun i => rfl) ⟨?_, Fq⟩ ?_
 ·exact Lq
 rintro ⟨i, hi, hno⟩
 by_cases hlt : (i : Int) < (s.mem.length : Int)
 ·have hx : s.mem[i]? = some s.mem[i] := List.getElem?_eq_getElem (by omega)
  obtain ⟨x, hx0⟩ : ∃ x, s.mem[i] = x := ⟨_, rfl⟩
  rw [hx0] at hx
  have hnot : zDS sp x = false → s.mem.all (zDS sp) = false := fun h => by
   rw [List.all_eq_false]; exact ⟨x, List.mem_of_getElem? hx, by rw [h]; simp⟩
  have hyes : zDS sp x = true → ∀ (j : Nat) (y : Int × Int), j < i + 1 → s.mem[j]? = some y → zDS sp y = true := fun h j y hj hy => by
   by_cases hji : j = i
   ·subst hji; rw [hx] at hy; cases hy; exact h
   ·exact hno j y (by omega) hy
  have h2 := hnear x.1
  obtain ⟨c, hc⟩ : ∃ c, inB (-sp.val) sp.val x.1 = c := ⟨_, rfl⟩
  have hpe : zDS sp x = c := hc
  rw [hc] at h2
  cases c
  case false =>
   repeat' first | (with_reducible first | refine zA ?_ | refine zB ?_ | refine zS ?_ | refine zg ?_ | refine zI ?_ | refine zJ ?_ | refine zG ?_) | ((with_reducible refine And.intro ?_ ?_); · exact Sq) | ((first | with_reducible refine zC fun KC J hJ hKC => ?_ | (refine hKC _ _ _ _ _ (zD (h2) rfl rfl rfl ?_ ?_); (· exact Lq))); simp (maxSteps := 9999999) only [push_cast, seval, ↓reduceIte, hlt, zAK hx, undef]) | ((with_reducible refine hJ _ _ ?_); clear hJ hKC KC J) | ((with_reducible refine zF ?_ ?_); · rfl)
   refine zE ?_
   simp (maxSteps := 9999999) only [push_cast, seval, ↓reduceIte, show Tryz.f38.results = #[(.tmp 6)] from rfl]
   rw [hall1, hnot hpe]
   exact Lq
  repeat' first | (with_reducible first | refine zA ?_ | refine zB ?_ | refine zO ?_ | refine zJ ?_ | refine zG ?_) | ((with_reducible refine And.intro ?_ ?_); · exact Sq) | ((first | with_reducible refine zC fun KC J hJ hKC => ?_ | (refine hKC _ _ _ _ _ (zD (h2) rfl rfl rfl ?_ ?_); (· exact Lq))); simp (maxSteps := 9999999) only [push_cast, seval, ↓reduceIte, hlt, zAK hx, zb (i := i) (n := s.mem.length) (by omega) (by omega), undef]) | ((with_reducible refine hJ _ _ ?_); clear hJ hKC KC J) | ((with_reducible refine zF ?_ ?_); · rfl) | ((with_reducible refine zH ?_ ?_); · rfl)
  refine ⟨⟨i + 1, by omega, hyes hpe⟩, by simp only; omega, ?_, ⟨_, rfl⟩⟩
  exact Lq
 have hall2 : s.mem.all (zDS sp) = true := by
  rw [List.all_eq_true]
  intro x hx
  obtain ⟨j, hj⟩ := List.mem_iff_getElem?.1 hx
  exact hno j x (by have := (List.getElem?_eq_some_iff.1 hj).1; omega) hj
 repeat' first | (with_reducible first | refine zA ?_ | refine zB ?_ | refine zX ?_ | refine zW ?_ | refine zQ ?_ | refine zG ?_) | ((with_reducible refine zC fun KC J hJ hKC => ?_); simp (maxSteps := 9999999) only [push_cast, seval, ↓reduceIte, hlt]) | ((with_reducible refine hJ _ _ ?_); clear hJ hKC KC J) | ((with_reducible refine zH ?_ ?_); · rfl)
 clear hlt hno hi
 refine zi 3 (γ := {i : Nat // i ≤ s.stack.length ∧ ∀ (j : Nat) (x : Bool × Int × Int), j < i → s.stack[j]? = some x → zDW sp x = true}) (fun i => ⟨[.any, .any, .any, .ptr 0 0 0, .ptr 1 0 0, .ptr 2 0 0, .any, .any, .any, .any, .any, .any, .any, .any, .any, .any, .any, .any, .any, .any, .any, .any, .any, .any, .any, .any, .any, .any, .any, .any, .any, .any, .any, .any, .any, .any, .any, .any, .any, .any, .any, .any, .any, .any, .any, .any, .any, .any, .any, .any, .any, .any, .any, .any, .any, .any, .any, .any, .any, .any, .any, .any, .any, .any, .any, .any, .any, .any, .any, .any, .any, .any, .any, .any, .any, .any, .any, .any, .any, .any, .any, .any, .any, .any, .any, .any, .any, .any, .sl false 3 (zc s.stack), .v (.int .i64 s.stack.length), .v (.int .i64 i.1), .any, .any, .any, .any, .any, .any, .any, .any, .any, .any, .any, .any, .any, .any], [.ent ⟨0, none, 25, [.sl f 1 (zM ns), .sl g 1 (zL us)], .cells⟩, .ent ⟨0, none, 28, [.v (.int .i64 sp.code), .v (.int .i64 sp.mem), .v (.int .i64 sp.stack), .v (.int .i64 sp.val), .sl h 1 (zK sp.ws)], .cells⟩, .ent ⟨0, none, 39, [.v (.int .i64 s.v), .v (.int .i64 s.l), .sl false 3 (zh s.code), .sl false 2 (zR s.mem), .sl false 3 (zc s.stack), .sl false 2 (zR s.out)], .cells⟩]⟩) (fun i => s.stack.length - i.1) ⟨0, by simp⟩ (fun i => rfl) (fun i => zr rfl) (fun i => rfl) ⟨?_, Fq⟩ ?_
 ·exact Lq
 rintro ⟨i, hi, hno⟩
 by_cases hlt : (i : Int) < (s.stack.length : Int)
 ·have hx : s.stack[i]? = some s.stack[i] := List.getElem?_eq_getElem (by omega)
  obtain ⟨x, hx0⟩ : ∃ x, s.stack[i] = x := ⟨_, rfl⟩
  rw [hx0] at hx
  have hnot : zDW sp x = false → s.stack.all (zDW sp) = false := fun h => by
   rw [List.all_eq_false]; exact ⟨x, List.mem_of_getElem? hx, by rw [h]; simp⟩
  have hyes : zDW sp x = true → ∀ (j : Nat) (y : Bool × Int × Int), j < i + 1 → s.stack[j]? = some y → zDW sp y = true := fun h j y hj hy => by
   by_cases hji : j = i
   ·subst hji; rw [hx] at hy; cases hy; exact h
   ·exact hno j y (by omega) hy
  obtain ⟨r, v, l⟩ := x
  have h2 := hnear v
  obtain ⟨c, hc⟩ : ∃ c, inB (-sp.val) sp.val v = c := ⟨_, rfl⟩
  have hpe : zDW sp (r, v, l) = (r || c) := by rw [← hc]; rfl
  rw [hc] at h2
  cases r
  case true =>
   repeat' first | (with_reducible first | refine zA ?_ | refine zB ?_ | refine zO ?_ | refine zJ ?_ | refine zG ?_) | ((with_reducible refine And.intro ?_ ?_); · exact Sq) | ((with_reducible refine zC fun KC J hJ hKC => ?_); simp (maxSteps := 9999999) only [push_cast, seval, ↓reduceIte, hlt, zAJ hx, zb (i := i) (n := s.stack.length) (by omega) (by omega), undef]) | ((with_reducible refine hJ _ _ ?_); clear hJ hKC KC J) | ((with_reducible refine zF ?_ ?_); · rfl) | ((with_reducible refine zH ?_ ?_); · rfl)
   refine ⟨⟨i + 1, by omega, hyes (by rw [hpe]; rfl)⟩, by simp only; omega, ?_, ⟨_, rfl⟩⟩
   exact Lq
  cases c
  case false =>
   repeat' first | (with_reducible first | refine zA ?_ | refine zB ?_ | refine zS ?_ | refine zg ?_ | refine zI ?_ | refine zJ ?_ | refine zG ?_) | ((with_reducible refine And.intro ?_ ?_); · exact Sq) | ((first | with_reducible refine zC fun KC J hJ hKC => ?_ | (refine hKC _ _ _ _ _ (zD (h2) rfl rfl rfl ?_ ?_); (· exact Lq))); simp (maxSteps := 9999999) only [push_cast, seval, ↓reduceIte, hlt, zAJ hx, undef]) | ((with_reducible refine hJ _ _ ?_); clear hJ hKC KC J) | ((with_reducible refine zF ?_ ?_); · rfl)
   refine zE ?_
   simp (maxSteps := 9999999) only [push_cast, seval, ↓reduceIte, show Tryz.f38.results = #[(.tmp 6)] from rfl]
   rw [hall1, hall2, hnot (by rw [hpe]; rfl)]
   exact Lq
  repeat' first | (with_reducible first | refine zA ?_ | refine zB ?_ | refine zO ?_ | refine zJ ?_ | refine zG ?_) | ((with_reducible refine And.intro ?_ ?_); · exact Sq) | ((first | with_reducible refine zC fun KC J hJ hKC => ?_ | (refine hKC _ _ _ _ _ (zD (h2) rfl rfl rfl ?_ ?_); (· exact Lq))); simp (maxSteps := 9999999) only [push_cast, seval, ↓reduceIte, hlt, zAJ hx, zb (i := i) (n := s.stack.length) (by omega) (by omega), undef]) | ((with_reducible refine hJ _ _ ?_); clear hJ hKC KC J) | ((with_reducible refine zF ?_ ?_); · rfl) | ((with_reducible refine zH ?_ ?_); · rfl)
  refine ⟨⟨i + 1, by omega, hyes (by rw [hpe]; rfl)⟩, by simp only; omega, ?_, ⟨_, rfl⟩⟩
  exact Lq
 have hall3 : s.stack.all (zDW sp) = true := by
  rw [List.all_eq_true]
  intro x hx
  obtain ⟨j, hj⟩ := List.mem_iff_getElem?.1 hx
  exact hno j x (by have := (List.getElem?_eq_some_iff.1 hj).1; omega) hj
 repeat' first | (with_reducible first | refine zA ?_ | refine zB ?_ | refine zX ?_ | refine zW ?_ | refine zI ?_ | refine zQ ?_) | ((with_reducible refine zC fun KC J hJ hKC => ?_); simp (maxSteps := 9999999) only [push_cast, seval, ↓reduceIte, hlt]) | ((with_reducible refine hJ _ _ ?_); clear hJ hKC KC J) | ((with_reducible refine zH ?_ ?_); · rfl)
 clear hlt hno hi
 refine zE ?_
 simp (maxSteps := 9999999) only [push_cast, seval, ↓reduceIte, show Tryz.f38.results = #[(.tmp 6)] from rfl]
 rw [hall1, hall2, hall3]
 exact Lq
theorem zMc (ns : List ByteArray) (us : List Nat) (sp : Sp) (o : Int) (a b : Sta) (hs : Szs ns) (hu : U32 us) (hw : sp.ws.length ≤ 1000) (ha : Sml15 a) (hb : Sml15 b) :
  Fn Tryz.prog 41 [.agg [.sl false 1 (zM ns), .sl false 1 (zL us)], .agg (spF false sp), .v (.int .i64 o), .agg (zAN false false false false a), .agg (zAN false false false false b)] [] (.v (.int .i64 (zBa ns us sp o a b))) [] := by
 have h1 := zJO false false false ns us sp hs hu hw
 unfold zBa
 by_cases h0 : zCb ns us sp = 0
 case neg =>
  rw [if_neg h0]
  obtain ⟨m, hm⟩ : ∃ m, zCb ns us sp = m := ⟨_, rfl⟩
  rw [hm] at h0 h1 ⊢
  have h0' : (m != 0) = true := by simpa using h0
  simp only [zAN, spF] at h1 ⊢
  refine Fn.of (fn := Tryz.f41) (by kernel_rfl) rfl (by kernel_rfl) ⟨[.agg [.sl false 1 (zM ns), .sl false 1 (zL us)], .agg [.v (.int .i64 sp.code), .v (.int .i64 sp.mem), .v (.int .i64 sp.stack), .v (.int .i64 sp.val), .sl false 1 (zK sp.ws)], .v (.int .i64 o), .agg [.v (.int .i64 a.v), .v (.int .i64 a.l), .sl false 3 (zh a.code), .sl false 2 (zR a.mem), .sl false 3 (zc a.stack), .sl false 2 (zR a.out)], .agg [.v (.int .i64 b.v), .v (.int .i64 b.l), .sl false 3 (zh b.code), .sl false 2 (zR b.mem), .sl false 3 (zc b.stack), .sl false 2 (zR b.out)], .v undef, .v undef, .v undef, .v undef, .v undef, .v undef, .v undef, .v undef, .v undef, .v undef, .v undef, .v undef, .v undef, .v undef, .v undef, .v undef, .v undef, .v undef, .v undef, .v undef, .v undef, .v undef, .v undef, .v undef, .v undef, .v undef, .v undef, .v undef, .v undef, .v undef, .v undef, .v undef, .v undef, .v undef, .v undef, .v undef, .v undef, .v undef, .v undef, .v undef, .v undef, .v undef, .v undef, .v undef], []⟩ rfl ?_
  repeat' first | (with_reducible first | refine zA ?_ | refine zB ?_ | refine zS ?_ | refine zI ?_) | ((first | with_reducible refine zC fun KC J hJ hKC => ?_ | (refine hKC _ _ _ _ _ (zD (h1) rfl rfl rfl ?_ ?_); (· exact Lq))); simp (maxSteps := 9999999) only [push_cast, seval, ↓reduceIte, h0']) | ((with_reducible refine hJ _ _ ?_); clear hJ hKC KC J) | ((with_reducible refine zF ?_ ?_); · rfl)
  refine zE ?_
  simp (maxSteps := 9999999) only [push_cast, seval, ↓reduceIte, show Tryz.f41.results = #[(.tmp 10)] from rfl]
  exact Lq
 rw [if_pos h0]
 rw [h0] at h1
 obtain ⟨hc, hsp⟩ := zNj h0
 have hul := zGc hc
 have h2 := zGd false false false ns us sp a hsp ha.sml
 have h3 := zGd false false false ns us sp b hsp hb.sml
 by_cases xa : zDE us.length sp a = true
 case neg =>
  rw [if_neg (fun h => xa h.1)]
  rw [show zDE us.length sp a = false by simpa using xa] at h2
  simp only [zAN, spF] at h1 h2 ⊢
  refine Fn.of (fn := Tryz.f41) (by kernel_rfl) rfl (by kernel_rfl) ⟨[.agg [.sl false 1 (zM ns), .sl false 1 (zL us)], .agg [.v (.int .i64 sp.code), .v (.int .i64 sp.mem), .v (.int .i64 sp.stack), .v (.int .i64 sp.val), .sl false 1 (zK sp.ws)], .v (.int .i64 o), .agg [.v (.int .i64 a.v), .v (.int .i64 a.l), .sl false 3 (zh a.code), .sl false 2 (zR a.mem), .sl false 3 (zc a.stack), .sl false 2 (zR a.out)], .agg [.v (.int .i64 b.v), .v (.int .i64 b.l), .sl false 3 (zh b.code), .sl false 2 (zR b.mem), .sl false 3 (zc b.stack), .sl false 2 (zR b.out)], .v undef, .v undef, .v undef, .v undef, .v undef, .v undef, .v undef, .v undef, .v undef, .v undef, .v undef, .v undef, .v undef, .v undef, .v undef, .v undef, .v undef, .v undef, .v undef, .v undef, .v undef, .v undef, .v undef, .v undef, .v undef, .v undef, .v undef, .v undef, .v undef, .v undef, .v undef, .v undef, .v undef, .v undef, .v undef, .v undef, .v undef, .v undef, .v undef, .v undef, .v undef, .v undef, .v undef, .v undef], []⟩ rfl ?_
  repeat' first | (with_reducible first | refine zA ?_ | refine zB ?_ | refine zS ?_ | refine zI ?_ | refine zJ ?_) | ((first | with_reducible refine zC fun KC J hJ hKC => ?_ | (refine hKC _ _ _ _ _ (zD (h1) rfl rfl rfl ?_ ?_); (· exact Lq)) | (refine hKC _ _ _ _ _ (zD (h2) rfl rfl rfl ?_ ?_); (· exact Lq))); simp (maxSteps := 9999999) only [push_cast, seval, ↓reduceIte, bne_self_eq_false, undef]) | ((with_reducible refine hJ _ _ ?_); clear hJ hKC KC J) | ((with_reducible refine zF ?_ ?_); · rfl) | ((with_reducible refine zH ?_ ?_); · rfl)
  refine zE ?_
  simp (maxSteps := 9999999) only [push_cast, seval, ↓reduceIte, show Tryz.f41.results = #[(.tmp 10)] from rfl]
  exact Lq
 rw [xa] at h2
 by_cases xb : zDE us.length sp b = true
 case neg =>
  rw [if_neg (fun h => xb h.2)]
  rw [show zDE us.length sp b = false by simpa using xb] at h3
  simp only [zAN, spF] at h1 h2 h3 ⊢
  refine Fn.of (fn := Tryz.f41) (by kernel_rfl) rfl (by kernel_rfl) ⟨[.agg [.sl false 1 (zM ns), .sl false 1 (zL us)], .agg [.v (.int .i64 sp.code), .v (.int .i64 sp.mem), .v (.int .i64 sp.stack), .v (.int .i64 sp.val), .sl false 1 (zK sp.ws)], .v (.int .i64 o), .agg [.v (.int .i64 a.v), .v (.int .i64 a.l), .sl false 3 (zh a.code), .sl false 2 (zR a.mem), .sl false 3 (zc a.stack), .sl false 2 (zR a.out)], .agg [.v (.int .i64 b.v), .v (.int .i64 b.l), .sl false 3 (zh b.code), .sl false 2 (zR b.mem), .sl false 3 (zc b.stack), .sl false 2 (zR b.out)], .v undef, .v undef, .v undef, .v undef, .v undef, .v undef, .v undef, .v undef, .v undef, .v undef, .v undef, .v undef, .v undef, .v undef, .v undef, .v undef, .v undef, .v undef, .v undef, .v undef, .v undef, .v undef, .v undef, .v undef, .v undef, .v undef, .v undef, .v undef, .v undef, .v undef, .v undef, .v undef, .v undef, .v undef, .v undef, .v undef, .v undef, .v undef, .v undef, .v undef, .v undef, .v undef, .v undef, .v undef], []⟩ rfl ?_
  repeat' first | (with_reducible first | refine zA ?_ | refine zB ?_ | refine zS ?_ | refine zI ?_ | refine zJ ?_) | ((first | with_reducible refine zC fun KC J hJ hKC => ?_ | (refine hKC _ _ _ _ _ (zD (h1) rfl rfl rfl ?_ ?_); (· exact Lq)) | (refine hKC _ _ _ _ _ (zD (h2) rfl rfl rfl ?_ ?_); (· exact Lq)) | (refine hKC _ _ _ _ _ (zD (h3) rfl rfl rfl ?_ ?_); (· exact Lq))); simp (maxSteps := 9999999) only [push_cast, seval, ↓reduceIte, bne_self_eq_false, undef]) | ((with_reducible refine hJ _ _ ?_); clear hJ hKC KC J) | ((with_reducible refine zF ?_ ?_); · rfl) | ((with_reducible refine zH ?_ ?_); · rfl)
  refine zE ?_
  simp (maxSteps := 9999999) only [push_cast, seval, ↓reduceIte, show Tryz.f41.results = #[(.tmp 10)] from rfl]
  exact Lq
 rw [xb] at h3
 rw [if_pos ⟨xa, xb⟩]
 have hql : (zL us).length = us.length := by simp [zL]
 by_cases ho : zn us.length o = false
 case neg =>
  have hm9 : ¬ zBz ns us o a b = 0 := fun h => ho (zHc h).ob
  rw [if_neg (fun h => hm9 h.1)]
  simp only [zAN, spF] at h1 h2 h3 ⊢
  by_cases ho1 : o < 0
  ·have ho1' : decide (o < 0) = true := decide_eq_true ho1
   refine Fn.of (fn := Tryz.f41) (by kernel_rfl) rfl (by kernel_rfl) ⟨[.agg [.sl false 1 (zM ns), .sl false 1 (zL us)], .agg [.v (.int .i64 sp.code), .v (.int .i64 sp.mem), .v (.int .i64 sp.stack), .v (.int .i64 sp.val), .sl false 1 (zK sp.ws)], .v (.int .i64 o), .agg [.v (.int .i64 a.v), .v (.int .i64 a.l), .sl false 3 (zh a.code), .sl false 2 (zR a.mem), .sl false 3 (zc a.stack), .sl false 2 (zR a.out)], .agg [.v (.int .i64 b.v), .v (.int .i64 b.l), .sl false 3 (zh b.code), .sl false 2 (zR b.mem), .sl false 3 (zc b.stack), .sl false 2 (zR b.out)], .v undef, .v undef, .v undef, .v undef, .v undef, .v undef, .v undef, .v undef, .v undef, .v undef, .v undef, .v undef, .v undef, .v undef, .v undef, .v undef, .v undef, .v undef, .v undef, .v undef, .v undef, .v undef, .v undef, .v undef, .v undef, .v undef, .v undef, .v undef, .v undef, .v undef, .v undef, .v undef, .v undef, .v undef, .v undef, .v undef, .v undef, .v undef, .v undef, .v undef, .v undef, .v undef, .v undef, .v undef], []⟩ rfl ?_
   repeat' first | (with_reducible first | refine zA ?_ | refine zB ?_ | refine zS ?_ | refine zI ?_ | refine zJ ?_) | ((first | with_reducible refine zC fun KC J hJ hKC => ?_ | (refine hKC _ _ _ _ _ (zD (h1) rfl rfl rfl ?_ ?_); (· exact Lq)) | (refine hKC _ _ _ _ _ (zD (h2) rfl rfl rfl ?_ ?_); (· exact Lq)) | (refine hKC _ _ _ _ _ (zD (h3) rfl rfl rfl ?_ ?_); (· exact Lq))); simp (maxSteps := 9999999) only [push_cast, seval, ↓reduceIte, bne_self_eq_false, ho1, ho1', undef]) | ((with_reducible refine hJ _ _ ?_); clear hJ hKC KC J) | ((with_reducible refine zF ?_ ?_); · rfl) | ((with_reducible refine zH ?_ ?_); · rfl)
   refine zE ?_
   simp (maxSteps := 9999999) only [push_cast, seval, ↓reduceIte, show Tryz.f41.results = #[(.tmp 10)] from rfl]
   exact Lq
  ·have ho2 : (us.length : Int) ≤ o := by
    have : ¬ (0 ≤ o ∧ o < us.length) := fun h => ho (zFd.2 h)
    omega
   have ho1' : decide (o < 0) = false := decide_eq_false ho1
   have ho2' : decide ((us.length : Int) ≤ o) = true := decide_eq_true ho2
   refine Fn.of (fn := Tryz.f41) (by kernel_rfl) rfl (by kernel_rfl) ⟨[.agg [.sl false 1 (zM ns), .sl false 1 (zL us)], .agg [.v (.int .i64 sp.code), .v (.int .i64 sp.mem), .v (.int .i64 sp.stack), .v (.int .i64 sp.val), .sl false 1 (zK sp.ws)], .v (.int .i64 o), .agg [.v (.int .i64 a.v), .v (.int .i64 a.l), .sl false 3 (zh a.code), .sl false 2 (zR a.mem), .sl false 3 (zc a.stack), .sl false 2 (zR a.out)], .agg [.v (.int .i64 b.v), .v (.int .i64 b.l), .sl false 3 (zh b.code), .sl false 2 (zR b.mem), .sl false 3 (zc b.stack), .sl false 2 (zR b.out)], .v undef, .v undef, .v undef, .v undef, .v undef, .v undef, .v undef, .v undef, .v undef, .v undef, .v undef, .v undef, .v undef, .v undef, .v undef, .v undef, .v undef, .v undef, .v undef, .v undef, .v undef, .v undef, .v undef, .v undef, .v undef, .v undef, .v undef, .v undef, .v undef, .v undef, .v undef, .v undef, .v undef, .v undef, .v undef, .v undef, .v undef, .v undef, .v undef, .v undef, .v undef, .v undef, .v undef, .v undef], []⟩ rfl ?_
   repeat' first | (with_reducible first | refine zA ?_ | refine zB ?_ | refine zS ?_ | refine zI ?_ | refine zJ ?_) | ((first | with_reducible refine zC fun KC J hJ hKC => ?_ | (refine hKC _ _ _ _ _ (zD (h1) rfl rfl rfl ?_ ?_); (· exact Lq)) | (refine hKC _ _ _ _ _ (zD (h2) rfl rfl rfl ?_ ?_); (· exact Lq)) | (refine hKC _ _ _ _ _ (zD (h3) rfl rfl rfl ?_ ?_); (· exact Lq))); simp (maxSteps := 9999999) only [push_cast, seval, ↓reduceIte, bne_self_eq_false, ho1, ho2, ho1', ho2', hql, ge_iff_le, undef]) | ((with_reducible refine hJ _ _ ?_); clear hJ hKC KC J) | ((with_reducible refine zF ?_ ?_); · rfl) | ((with_reducible refine zH ?_ ?_); · rfl)
   refine zE ?_
   simp (maxSteps := 9999999) only [push_cast, seval, ↓reduceIte, show Tryz.f41.results = #[(.tmp 10)] from rfl]
   exact Lq
 have hm0 : zBz ns us o a b = 0 := by
  unfold zBz; rw [if_pos hc, ho, zJf hul.1 ((zKx hsp).1 xa), zJf hul.1 ((zKx hsp).1 xb)]; rfl
 have h4 := zMa ns us o a b hu ha hb (by omega) hm0
 obtain ⟨O, rfl, hO⟩ := zAP ho
 rw [Int.toNat_natCast] at h4 ⊢
 have ho1 : ¬ ((O : Int) < 0) := by omega
 have ho2 : ¬ ((us.length : Int) ≤ (O : Int)) := by omega
 have ho1' : decide ((O : Int) < 0) = false := decide_eq_false ho1
 have ho2' : decide ((us.length : Int) ≤ (O : Int)) = false := decide_eq_false ho2
 obtain ⟨t, ht⟩ : ∃ t, zCX us O a b = t := ⟨_, rfl⟩
 rw [ht] at h4 ⊢
 simp only [zAN, spF] at h1 h2 h3 h4 ⊢
 cases t
 ·rw [if_neg (by simp)]
  refine Fn.of (fn := Tryz.f41) (by kernel_rfl) rfl (by kernel_rfl) ⟨[.agg [.sl false 1 (zM ns), .sl false 1 (zL us)], .agg [.v (.int .i64 sp.code), .v (.int .i64 sp.mem), .v (.int .i64 sp.stack), .v (.int .i64 sp.val), .sl false 1 (zK sp.ws)], .v (.int .i64 (O : Int)), .agg [.v (.int .i64 a.v), .v (.int .i64 a.l), .sl false 3 (zh a.code), .sl false 2 (zR a.mem), .sl false 3 (zc a.stack), .sl false 2 (zR a.out)], .agg [.v (.int .i64 b.v), .v (.int .i64 b.l), .sl false 3 (zh b.code), .sl false 2 (zR b.mem), .sl false 3 (zc b.stack), .sl false 2 (zR b.out)], .v undef, .v undef, .v undef, .v undef, .v undef, .v undef, .v undef, .v undef, .v undef, .v undef, .v undef, .v undef, .v undef, .v undef, .v undef, .v undef, .v undef, .v undef, .v undef, .v undef, .v undef, .v undef, .v undef, .v undef, .v undef, .v undef, .v undef, .v undef, .v undef, .v undef, .v undef, .v undef, .v undef, .v undef, .v undef, .v undef, .v undef, .v undef, .v undef, .v undef, .v undef, .v undef, .v undef, .v undef], []⟩ rfl ?_
  repeat' first | (with_reducible first | refine zA ?_ | refine zB ?_ | refine zS ?_ | refine zI ?_ | refine zJ ?_) | ((first | with_reducible refine zC fun KC J hJ hKC => ?_ | (refine hKC _ _ _ _ _ (zD (h1) rfl rfl rfl ?_ ?_); (· exact Lq)) | (refine hKC _ _ _ _ _ (zD (h2) rfl rfl rfl ?_ ?_); (· exact Lq)) | (refine hKC _ _ _ _ _ (zD (h3) rfl rfl rfl ?_ ?_); (· exact Lq)) | (refine hKC _ _ _ _ _ (zD (h4) rfl rfl rfl ?_ ?_); (· exact Lq))); simp (maxSteps := 9999999) only [push_cast, seval, ↓reduceIte, bne_self_eq_false, ho1, ho2, ho1', ho2', hql, ge_iff_le, undef]) | ((with_reducible refine hJ _ _ ?_); clear hJ hKC KC J) | ((with_reducible refine zF ?_ ?_); · rfl) | ((with_reducible refine zH ?_ ?_); · rfl)
  refine zE ?_
  simp (maxSteps := 9999999) only [push_cast, seval, ↓reduceIte, show Tryz.f41.results = #[(.tmp 10)] from rfl]
  exact Lq
 ·rw [if_pos ⟨hm0, rfl⟩]
  refine Fn.of (fn := Tryz.f41) (by kernel_rfl) rfl (by kernel_rfl) ⟨[.agg [.sl false 1 (zM ns), .sl false 1 (zL us)], .agg [.v (.int .i64 sp.code), .v (.int .i64 sp.mem), .v (.int .i64 sp.stack), .v (.int .i64 sp.val), .sl false 1 (zK sp.ws)], .v (.int .i64 (O : Int)), .agg [.v (.int .i64 a.v), .v (.int .i64 a.l), .sl false 3 (zh a.code), .sl false 2 (zR a.mem), .sl false 3 (zc a.stack), .sl false 2 (zR a.out)], .agg [.v (.int .i64 b.v), .v (.int .i64 b.l), .sl false 3 (zh b.code), .sl false 2 (zR b.mem), .sl false 3 (zc b.stack), .sl false 2 (zR b.out)], .v undef, .v undef, .v undef, .v undef, .v undef, .v undef, .v undef, .v undef, .v undef, .v undef, .v undef, .v undef, .v undef, .v undef, .v undef, .v undef, .v undef, .v undef, .v undef, .v undef, .v undef, .v undef, .v undef, .v undef, .v undef, .v undef, .v undef, .v undef, .v undef, .v undef, .v undef, .v undef, .v undef, .v undef, .v undef, .v undef, .v undef, .v undef, .v undef, .v undef, .v undef, .v undef, .v undef, .v undef], []⟩ rfl ?_
  repeat' first | (with_reducible first | refine zA ?_ | refine zB ?_ | refine zI ?_ | refine zJ ?_) | ((first | with_reducible refine zC fun KC J hJ hKC => ?_ | (refine hKC _ _ _ _ _ (zD (h1) rfl rfl rfl ?_ ?_); (· exact Lq)) | (refine hKC _ _ _ _ _ (zD (h2) rfl rfl rfl ?_ ?_); (· exact Lq)) | (refine hKC _ _ _ _ _ (zD (h3) rfl rfl rfl ?_ ?_); (· exact Lq)) | (refine hKC _ _ _ _ _ (zD (h4) rfl rfl rfl ?_ ?_); (· exact Lq))); simp (maxSteps := 9999999) only [push_cast, seval, ↓reduceIte, bne_self_eq_false, ho1, ho2, ho1', ho2', hql, ge_iff_le, undef]) | ((with_reducible refine hJ _ _ ?_); clear hJ hKC KC J) | ((with_reducible refine zH ?_ ?_); · rfl)
  refine zE ?_
  simp (maxSteps := 9999999) only [push_cast, seval, ↓reduceIte, show Tryz.f41.results = #[(.tmp 10)] from rfl]
  exact Lq
theorem unpickChoices_fn (f g fc fm fs fo gc gm gs go : Bool) (ns : List ByteArray) (us : List Nat) (sp : Sp) (o : Int) (a b : Sta) (hu0 : U32 us) :
  Fn Tryz.prog 6 [.agg [.sl f 1 (zM ns), .sl g 1 (zL us)], .agg (spF false sp), .v (.int .i64 o), .agg (zAN fc fm fs fo a), .agg (zAN gc gm gs go b)] [] (.v (.bool true)) [] := by
 have hs := zRS ns
 have hu := zRM hu0
 have h1 := zPU f g ns us
 obtain ⟨xs, hxs⟩ : ∃ xs, (ns.take 10).map zHi = xs := ⟨_, rfl⟩
 obtain ⟨ys, hys⟩ : ∃ xs, us.take 10 = xs := ⟨_, rfl⟩
 rw [hxs] at hs h1
 rw [hys] at hu h1
 obtain ⟨q, hq⟩ : ∃ q, zRj sp = q := ⟨_, rfl⟩
 have hqw : q.ws.length ≤ 1000 := by rw [← hq]; simp [zRj]; omega
 have q1 : sp.code = q.code := by rw [← hq]; rfl
 have q2 : sp.mem = q.mem := by rw [← hq]; rfl
 have q3 : sp.stack = q.stack := by rw [← hq]; rfl
 have q4 : sp.val = q.val := by rw [← hq]; rfl
 have q5 : sp.ws.take 16 = q.ws := by rw [← hq]; rfl
 have h6 := zMl
 have c1 := zMB fc fm fs fo a
 have c2 := zMB gc gm gs go b
 have sa := zJb a
 have sb := zJb b
 obtain ⟨A, hA⟩ : ∃ A, zDN a = A := ⟨_, rfl⟩
 obtain ⟨B, hB⟩ : ∃ A, zDN b = A := ⟨_, rfl⟩
 rw [hA] at c1 sa
 rw [hB] at c2 sb
 have h3 := zGh false false xs ys q A hs hu hqw sa
 have h4 := zHq xs ys q o A B hs hu hqw sa sb
 have h5 := zPx false false xs ys q o A B hs hu hqw sa sb
 have m1 := zJO false false false xs ys q hs hu hqw
 have k1 := zMc xs ys q o A B hs hu hqw sa sb
 have r1 := zLM q A hqw (by have := sa.code; omega) (by have := sa.mem; omega) (by have := sa.stack; omega)
 unfold stU at h3
 unfold vaU at h4
 unfold paU at h5
 by_cases hm : zCb xs ys q = 0
 case neg =>
  have e1 : zCA xs ys q A = zCb xs ys q := by unfold zCA; rw [if_neg hm]
  have e2 : zBa xs ys q o A B = zCb xs ys q := by unfold zBa; rw [if_neg hm]
  rw [e1, if_neg hm] at h3
  rw [e2, if_neg hm] at h4 h5
  rw [e2] at k1
  obtain ⟨m, hm'⟩ : ∃ m, zCb xs ys q = m := ⟨_, rfl⟩
  rw [hm'] at h3 h4 h5 k1 m1 hm
  have n1 : (m == 0) = false := by simpa using hm
  have n2 : (m != 0) = true := by simpa using hm
  simp only [zAN, spF, zAW] at c1 c2 h3 h4 h5 k1 m1 ⊢
  refine Fn.of (fn := Tryz.f6) (by kernel_rfl) rfl (by kernel_rfl) ⟨[.agg [.sl f 1 (zM ns), .sl g 1 (zL us)], .agg [.v (.int .i64 sp.code), .v (.int .i64 sp.mem), .v (.int .i64 sp.stack), .v (.int .i64 sp.val), .sl false 1 (zK sp.ws)], .v (.int .i64 o), .agg [.v (.int .i64 a.v), .v (.int .i64 a.l), .sl fc 3 (zh a.code), .sl fm 2 (zR a.mem), .sl fs 3 (zc a.stack), .sl fo 2 (zR a.out)], .agg [.v (.int .i64 b.v), .v (.int .i64 b.l), .sl gc 3 (zh b.code), .sl gm 2 (zR b.mem), .sl gs 3 (zc b.stack), .sl go 2 (zR b.out)], .v undef, .v undef, .v undef, .v undef, .v undef, .v undef, .v undef, .v undef, .v undef, .v undef, .v undef, .v undef, .v undef, .v undef, .v undef, .v undef, .v undef, .v undef, .v undef, .v undef, .v undef, .v undef, .v undef, .v undef, .v undef, .v undef, .v undef, .v undef, .v undef, .v undef, .v undef, .v undef, .v undef, .v undef, .v undef, .v undef, .v undef, .v undef, .v undef, .v undef, .v undef, .v undef, .v undef, .v undef, .v undef, .v undef, .v undef, .v undef, .v undef, .v undef, .v undef, .v undef, .v undef, .v undef, .v undef, .v undef, .v undef, .v undef, .v undef, .v undef, .v undef, .v undef, .v undef, .v undef, .v undef, .v undef, .v undef, .v undef, .v undef, .v undef, .v undef, .v undef, .v undef, .v undef, .v undef, .v undef, .v undef, .v undef, .v undef, .v undef, .v undef, .v undef, .v undef, .v undef, .v undef, .v undef, .v undef, .v undef, .v undef, .v undef, .v undef, .v undef, .v undef, .v undef, .v undef, .v undef, .v undef, .v undef, .v undef, .v undef, .v undef, .v undef, .v undef, .v undef, .v undef, .v undef, .v undef, .v undef, .v undef, .v undef, .v undef, .v undef, .v undef, .v undef, .v undef, .v undef, .v undef, .v undef, .v undef, .v undef, .v undef, .v undef, .v undef, .v undef, .v undef, .v undef, .v undef, .v undef, .v undef, .v undef, .v undef, .v undef, .v undef, .v undef, .v undef, .v undef, .v undef, .v undef, .v undef, .v undef, .v undef, .v undef, .v undef, .v undef, .v undef], []⟩ rfl ?_
  repeat' first | (with_reducible first | refine zA ?_ | refine zB ?_ | refine zS ?_ | refine zI ?_ | refine zJ ?_) | ((with_reducible refine And.intro ?_ ?_); · exact Sq) | ((first | with_reducible refine zC fun KC J hJ hKC => ?_ | with_reducible refine zU rfl fun KC J hJ hKC => ?_ | (refine hKC _ _ _ _ _ (zD (h1) rfl rfl rfl ?_ ?_); (· exact Lq)) | (refine hKC _ _ _ _ _ (zD (c1) rfl rfl rfl ?_ ?_); (· exact Lq)) | (refine hKC _ _ _ _ _ (zD (c2) rfl rfl rfl ?_ ?_); (· exact Lq)) | (refine hKC _ _ _ _ _ (zD (h3) rfl rfl rfl ?_ ?_); (· exact Lq)) | (refine hKC _ _ _ _ _ (zD (h4) rfl rfl rfl ?_ ?_); (· exact Lq)) | (refine hKC _ _ _ _ _ (zD (h5) rfl rfl rfl ?_ ?_); (· exact Lq)) | (refine hKC _ _ _ _ _ (zD (m1) rfl rfl rfl ?_ ?_); (· exact Lq)) | (refine hKC _ _ _ _ _ (zD (k1) rfl rfl rfl ?_ ?_); (· exact Lq)) | (refine hKC _ _ _ _ _ (zD (h6) rfl rfl rfl ?_ ?_); (· exact Lq))); simp (maxSteps := 9999999) only [push_cast, seval, ↓reduceIte, q1, q2, q3, q4, q5, zBV (K := 16) (k := 16) rfl sp.ws, undef, beq_self_eq_true, bne_self_eq_false, n1, n2]) | ((first | with_reducible refine hJ _ _ ?_ | (with_reducible refine hJ _ _ ?_ ?_; · kernel_rfl)); clear hJ hKC KC J) | ((with_reducible refine zF ?_ ?_); · rfl) | ((with_reducible refine zH ?_ ?_); · rfl)
  refine zE ?_
  simp (maxSteps := 9999999) only [push_cast, seval, ↓reduceIte, show Tryz.f6.results = #[(.tmp 10)] from rfl]
  exact Lq
 obtain ⟨hc, hsp⟩ := zNj hm
 have x1 := zGd false false false xs ys q A hsp sa.sml
 rw [hm] at m1
 by_cases hxa : zDE ys.length q A = true
 case neg =>
  have e1 : zCA xs ys q A = 9 := by unfold zCA; rw [if_pos hm, if_neg hxa]
  have e2 : zBa xs ys q o A B = 9 := by unfold zBa; rw [if_pos hm, if_neg (fun h => hxa h.1)]
  rw [e1, if_neg (by decide)] at h3
  rw [e2, if_neg (by decide)] at h4 h5
  rw [e2] at k1
  rw [show zDE ys.length q A = false by simpa using hxa] at x1
  simp only [zAN, spF, zAW] at c1 c2 h3 h4 h5 k1 m1 x1 ⊢
  refine Fn.of (fn := Tryz.f6) (by kernel_rfl) rfl (by kernel_rfl) ⟨[.agg [.sl f 1 (zM ns), .sl g 1 (zL us)], .agg [.v (.int .i64 sp.code), .v (.int .i64 sp.mem), .v (.int .i64 sp.stack), .v (.int .i64 sp.val), .sl false 1 (zK sp.ws)], .v (.int .i64 o), .agg [.v (.int .i64 a.v), .v (.int .i64 a.l), .sl fc 3 (zh a.code), .sl fm 2 (zR a.mem), .sl fs 3 (zc a.stack), .sl fo 2 (zR a.out)], .agg [.v (.int .i64 b.v), .v (.int .i64 b.l), .sl gc 3 (zh b.code), .sl gm 2 (zR b.mem), .sl gs 3 (zc b.stack), .sl go 2 (zR b.out)], .v undef, .v undef, .v undef, .v undef, .v undef, .v undef, .v undef, .v undef, .v undef, .v undef, .v undef, .v undef, .v undef, .v undef, .v undef, .v undef, .v undef, .v undef, .v undef, .v undef, .v undef, .v undef, .v undef, .v undef, .v undef, .v undef, .v undef, .v undef, .v undef, .v undef, .v undef, .v undef, .v undef, .v undef, .v undef, .v undef, .v undef, .v undef, .v undef, .v undef, .v undef, .v undef, .v undef, .v undef, .v undef, .v undef, .v undef, .v undef, .v undef, .v undef, .v undef, .v undef, .v undef, .v undef, .v undef, .v undef, .v undef, .v undef, .v undef, .v undef, .v undef, .v undef, .v undef, .v undef, .v undef, .v undef, .v undef, .v undef, .v undef, .v undef, .v undef, .v undef, .v undef, .v undef, .v undef, .v undef, .v undef, .v undef, .v undef, .v undef, .v undef, .v undef, .v undef, .v undef, .v undef, .v undef, .v undef, .v undef, .v undef, .v undef, .v undef, .v undef, .v undef, .v undef, .v undef, .v undef, .v undef, .v undef, .v undef, .v undef, .v undef, .v undef, .v undef, .v undef, .v undef, .v undef, .v undef, .v undef, .v undef, .v undef, .v undef, .v undef, .v undef, .v undef, .v undef, .v undef, .v undef, .v undef, .v undef, .v undef, .v undef, .v undef, .v undef, .v undef, .v undef, .v undef, .v undef, .v undef, .v undef, .v undef, .v undef, .v undef, .v undef, .v undef, .v undef, .v undef, .v undef, .v undef, .v undef, .v undef, .v undef, .v undef, .v undef, .v undef, .v undef], []⟩ rfl ?_
  repeat' first | (with_reducible first | refine zA ?_ | refine zB ?_ | refine zS ?_ | refine zI ?_ | refine zJ ?_) | ((with_reducible refine And.intro ?_ ?_); · exact Sq) | ((first | with_reducible refine zC fun KC J hJ hKC => ?_ | with_reducible refine zU rfl fun KC J hJ hKC => ?_ | (refine hKC _ _ _ _ _ (zD (h1) rfl rfl rfl ?_ ?_); (· exact Lq)) | (refine hKC _ _ _ _ _ (zD (c1) rfl rfl rfl ?_ ?_); (· exact Lq)) | (refine hKC _ _ _ _ _ (zD (c2) rfl rfl rfl ?_ ?_); (· exact Lq)) | (refine hKC _ _ _ _ _ (zD (h3) rfl rfl rfl ?_ ?_); (· exact Lq)) | (refine hKC _ _ _ _ _ (zD (h4) rfl rfl rfl ?_ ?_); (· exact Lq)) | (refine hKC _ _ _ _ _ (zD (h5) rfl rfl rfl ?_ ?_); (· exact Lq)) | (refine hKC _ _ _ _ _ (zD (m1) rfl rfl rfl ?_ ?_); (· exact Lq)) | (refine hKC _ _ _ _ _ (zD (x1) rfl rfl rfl ?_ ?_); (· exact Lq)) | (refine hKC _ _ _ _ _ (zD (k1) rfl rfl rfl ?_ ?_); (· exact Lq)) | (refine hKC _ _ _ _ _ (zD (h6) rfl rfl rfl ?_ ?_); (· exact Lq))); simp (maxSteps := 9999999) only [push_cast, seval, ↓reduceIte, q1, q2, q3, q4, q5, zBV (K := 16) (k := 16) rfl sp.ws, undef, beq_self_eq_true, bne_self_eq_false]) | ((first | with_reducible refine hJ _ _ ?_ | (with_reducible refine hJ _ _ ?_ ?_; · kernel_rfl)); clear hJ hKC KC J) | ((with_reducible refine zF ?_ ?_); · rfl) | ((with_reducible refine zH ?_ ?_); · rfl)
  refine zE ?_
  simp (maxSteps := 9999999) only [push_cast, seval, ↓reduceIte, show Tryz.f6.results = #[(.tmp 10)] from rfl]
  exact Lq
 have e1 : zCA xs ys q A = 0 := by unfold zCA; rw [if_pos hm, if_pos hxa]
 have hpl1 := zFP q sa
 rw [e1, if_pos rfl] at h3
 rw [hxa] at x1
 obtain ⟨X, hX⟩ : ∃ X, zBY q A = X := ⟨_, rfl⟩
 have hXp : 0 < X.length := by rw [← hX]; exact zFG q A
 rw [hX] at h3 r1 hpl1
 have z1 := zFj false false X X (by omega)
 rw [decide_eq_true rfl] at z1
 by_cases hb0 : zBa xs ys q o A B = 0
 case neg =>
  rw [if_neg hb0] at h4 h5
  obtain ⟨e, he⟩ : ∃ e, zBa xs ys q o A B = e := ⟨_, rfl⟩
  rw [he] at h4 h5 k1 hb0
  have n2 : (e != 0) = true := by simpa using hb0
  simp only [zAN, spF, zAW] at c1 c2 h3 h4 h5 k1 m1 x1 r1 ⊢
  refine Fn.of (fn := Tryz.f6) (by kernel_rfl) rfl (by kernel_rfl) ⟨[.agg [.sl f 1 (zM ns), .sl g 1 (zL us)], .agg [.v (.int .i64 sp.code), .v (.int .i64 sp.mem), .v (.int .i64 sp.stack), .v (.int .i64 sp.val), .sl false 1 (zK sp.ws)], .v (.int .i64 o), .agg [.v (.int .i64 a.v), .v (.int .i64 a.l), .sl fc 3 (zh a.code), .sl fm 2 (zR a.mem), .sl fs 3 (zc a.stack), .sl fo 2 (zR a.out)], .agg [.v (.int .i64 b.v), .v (.int .i64 b.l), .sl gc 3 (zh b.code), .sl gm 2 (zR b.mem), .sl gs 3 (zc b.stack), .sl go 2 (zR b.out)], .v undef, .v undef, .v undef, .v undef, .v undef, .v undef, .v undef, .v undef, .v undef, .v undef, .v undef, .v undef, .v undef, .v undef, .v undef, .v undef, .v undef, .v undef, .v undef, .v undef, .v undef, .v undef, .v undef, .v undef, .v undef, .v undef, .v undef, .v undef, .v undef, .v undef, .v undef, .v undef, .v undef, .v undef, .v undef, .v undef, .v undef, .v undef, .v undef, .v undef, .v undef, .v undef, .v undef, .v undef, .v undef, .v undef, .v undef, .v undef, .v undef, .v undef, .v undef, .v undef, .v undef, .v undef, .v undef, .v undef, .v undef, .v undef, .v undef, .v undef, .v undef, .v undef, .v undef, .v undef, .v undef, .v undef, .v undef, .v undef, .v undef, .v undef, .v undef, .v undef, .v undef, .v undef, .v undef, .v undef, .v undef, .v undef, .v undef, .v undef, .v undef, .v undef, .v undef, .v undef, .v undef, .v undef, .v undef, .v undef, .v undef, .v undef, .v undef, .v undef, .v undef, .v undef, .v undef, .v undef, .v undef, .v undef, .v undef, .v undef, .v undef, .v undef, .v undef, .v undef, .v undef, .v undef, .v undef, .v undef, .v undef, .v undef, .v undef, .v undef, .v undef, .v undef, .v undef, .v undef, .v undef, .v undef, .v undef, .v undef, .v undef, .v undef, .v undef, .v undef, .v undef, .v undef, .v undef, .v undef, .v undef, .v undef, .v undef, .v undef, .v undef, .v undef, .v undef, .v undef, .v undef, .v undef, .v undef, .v undef, .v undef, .v undef, .v undef, .v undef, .v undef], []⟩ rfl ?_
  repeat' first | (with_reducible first | refine zA ?_ | refine zB ?_ | refine zS ?_ | refine zI ?_ | refine zJ ?_) | ((with_reducible refine And.intro ?_ ?_); · exact Sq) | ((first | with_reducible refine zC fun KC J hJ hKC => ?_ | with_reducible refine zU rfl fun KC J hJ hKC => ?_ | (refine hKC _ _ _ _ _ (zD (h1) rfl rfl rfl ?_ ?_); (· exact Lq)) | (refine hKC _ _ _ _ _ (zD (c1) rfl rfl rfl ?_ ?_); (· exact Lq)) | (refine hKC _ _ _ _ _ (zD (c2) rfl rfl rfl ?_ ?_); (· exact Lq)) | (refine hKC _ _ _ _ _ (zD (h3) rfl rfl rfl ?_ ?_); (· exact Lq)) | (refine hKC _ _ _ _ _ (zD (h4) rfl rfl rfl ?_ ?_); (· exact Lq)) | (refine hKC _ _ _ _ _ (zD (h5) rfl rfl rfl ?_ ?_); (· exact Lq)) | (refine hKC _ _ _ _ _ (zD (m1) rfl rfl rfl ?_ ?_); (· exact Lq)) | (refine hKC _ _ _ _ _ (zD (x1) rfl rfl rfl ?_ ?_); (· exact Lq)) | (refine hKC _ _ _ _ _ (zD (r1) rfl rfl rfl ?_ ?_); (· exact Lq)) | (refine hKC _ _ _ _ _ (zD (z1) rfl rfl rfl ?_ ?_); (· exact Lq)) | (refine hKC _ _ _ _ _ (zD (k1) rfl rfl rfl ?_ ?_); (· exact Lq)) | (refine hKC _ _ _ _ _ (zD (h6) rfl rfl rfl ?_ ?_); (· exact Lq))); simp (maxSteps := 9999999) only [push_cast, seval, ↓reduceIte, q1, q2, q3, q4, q5, zBV (K := 16) (k := 16) rfl sp.ws, undef, beq_self_eq_true, bne_self_eq_false, n2]) | ((first | with_reducible refine hJ _ _ ?_ | (with_reducible refine hJ _ _ ?_ ?_; · kernel_rfl)); clear hJ hKC KC J) | ((with_reducible refine zF ?_ ?_); · rfl) | ((with_reducible refine zH ?_ ?_); · rfl)
  refine zE ?_
  simp (maxSteps := 9999999) only [push_cast, seval, ↓reduceIte, show Tryz.f6.results = #[(.tmp 10)] from rfl]
  exact Lq
 have ht := zIM.1 hb0
 have hpl : (zBY q A ++ zAa q ys o.toNat A B).length ≤ 330 := by have := zFP q sa; have := zGs q ys o.toNat A sb; rw [List.length_append]; omega
 rw [if_pos hb0, hb0] at h4 h5
 rw [hb0] at k1
 have ok := zHc ht.ok
 obtain ⟨O, rfl, hO⟩ := zAP ok.ob
 have hul := zGc ok.chk
 rw [Int.toNat_natCast] at h4 h5 hpl
 have hal : hid ys O A.l = true → hid ys O B.l = true := fun h => by
  have hst := ht.al
  rw [Int.toNat_natCast] at hst
  unfold zCX at hst
  simp only [Bool.and_eq_true] at hst
  have h2 := hst.2.2.2
  rw [show fl ys A.l.toNat O = false by simpa [hid] using h] at h2
  simp only [Bool.and_eq_true] at h2
  unfold hid
  exact h2.1
 have v1 := zKU false false xs ys q O A B hu (by omega) (by omega) hal ⟨by have := sb.code; omega, by have := sb.mem; omega, by have := sb.stack; omega, fun x hx _ => ok.cb x hx, ok.mb, ok.sb, ok.la, ok.lb⟩
 obtain ⟨V, hV⟩ : ∃ X, zAa q ys O A B = X := ⟨_, rfl⟩
 rw [hX, hV] at h5 hpl
 rw [hV] at h4 v1
 have hpv : V.length ≤ 330 := by rw [List.length_append] at hpl; omega
 have z2 := zFj false false V V (by omega)
 rw [decide_eq_true rfl] at z2
 have hfl : zAf [(false, X), (false, V)] = X ++ V := by simp [zAf]
 have h7 := zGa true [(false, X), (false, V)] (by rw [hfl, List.length_append]; omega) (by rw [hfl]; omega) (by simp)
 rw [hfl] at h7
 simp only [zDX, List.map_cons, List.map_nil] at h7
 have z3 := zFj false false (X ++ V) (X ++ V) (by omega)
 rw [decide_eq_true rfl] at z3
 obtain ⟨W, hW⟩ : ∃ W, X ++ V = W := ⟨_, rfl⟩
 rw [hW] at h5 h7 z3
 simp only [zAN, spF] at c1 c2 h3 h4 h5 k1 m1 x1 r1 v1 ⊢
 refine Fn.of (fn := Tryz.f6) (by kernel_rfl) rfl (by kernel_rfl) ⟨[.agg [.sl f 1 (zM ns), .sl g 1 (zL us)], .agg [.v (.int .i64 sp.code), .v (.int .i64 sp.mem), .v (.int .i64 sp.stack), .v (.int .i64 sp.val), .sl false 1 (zK sp.ws)], .v (.int .i64 (O : Int)), .agg [.v (.int .i64 a.v), .v (.int .i64 a.l), .sl fc 3 (zh a.code), .sl fm 2 (zR a.mem), .sl fs 3 (zc a.stack), .sl fo 2 (zR a.out)], .agg [.v (.int .i64 b.v), .v (.int .i64 b.l), .sl gc 3 (zh b.code), .sl gm 2 (zR b.mem), .sl gs 3 (zc b.stack), .sl go 2 (zR b.out)], .v undef, .v undef, .v undef, .v undef, .v undef, .v undef, .v undef, .v undef, .v undef, .v undef, .v undef, .v undef, .v undef, .v undef, .v undef, .v undef, .v undef, .v undef, .v undef, .v undef, .v undef, .v undef, .v undef, .v undef, .v undef, .v undef, .v undef, .v undef, .v undef, .v undef, .v undef, .v undef, .v undef, .v undef, .v undef, .v undef, .v undef, .v undef, .v undef, .v undef, .v undef, .v undef, .v undef, .v undef, .v undef, .v undef, .v undef, .v undef, .v undef, .v undef, .v undef, .v undef, .v undef, .v undef, .v undef, .v undef, .v undef, .v undef, .v undef, .v undef, .v undef, .v undef, .v undef, .v undef, .v undef, .v undef, .v undef, .v undef, .v undef, .v undef, .v undef, .v undef, .v undef, .v undef, .v undef, .v undef, .v undef, .v undef, .v undef, .v undef, .v undef, .v undef, .v undef, .v undef, .v undef, .v undef, .v undef, .v undef, .v undef, .v undef, .v undef, .v undef, .v undef, .v undef, .v undef, .v undef, .v undef, .v undef, .v undef, .v undef, .v undef, .v undef, .v undef, .v undef, .v undef, .v undef, .v undef, .v undef, .v undef, .v undef, .v undef, .v undef, .v undef, .v undef, .v undef, .v undef, .v undef, .v undef, .v undef, .v undef, .v undef, .v undef, .v undef, .v undef, .v undef, .v undef, .v undef, .v undef, .v undef, .v undef, .v undef, .v undef, .v undef, .v undef, .v undef, .v undef, .v undef, .v undef, .v undef, .v undef, .v undef, .v undef, .v undef, .v undef, .v undef], []⟩ rfl ?_
 repeat' first | (with_reducible first | refine zA ?_ | refine zB ?_ | refine zI ?_ | refine zJ ?_) | ((with_reducible refine And.intro ?_ ?_); · exact Sq) | ((first | with_reducible refine zC fun KC J hJ hKC => ?_ | with_reducible refine zU rfl fun KC J hJ hKC => ?_ | (refine hKC _ _ _ _ _ (zD (h1) rfl rfl rfl ?_ ?_); (· exact Lq)) | (refine hKC _ _ _ _ _ (zD (c1) rfl rfl rfl ?_ ?_); (· exact Lq)) | (refine hKC _ _ _ _ _ (zD (c2) rfl rfl rfl ?_ ?_); (· exact Lq)) | (refine hKC _ _ _ _ _ (zD (h3) rfl rfl rfl ?_ ?_); (· exact Lq)) | (refine hKC _ _ _ _ _ (zD (h4) rfl rfl rfl ?_ ?_); (· exact Lq)) | (refine hKC _ _ _ _ _ (zD (h5) rfl rfl rfl ?_ ?_); (· exact Lq)) | (refine hKC _ _ _ _ _ (zD (m1) rfl rfl rfl ?_ ?_); (· exact Lq)) | (refine hKC _ _ _ _ _ (zD (x1) rfl rfl rfl ?_ ?_); (· exact Lq)) | (refine hKC _ _ _ _ _ (zD (r1) rfl rfl rfl ?_ ?_); (· exact Lq)) | (refine hKC _ _ _ _ _ (zD (z1) rfl rfl rfl ?_ ?_); (· exact Lq)) | (refine hKC _ _ _ _ _ (zD (k1) rfl rfl rfl ?_ ?_); (· exact Lq)) | (refine hKC _ _ _ _ _ (zD (v1) rfl rfl rfl ?_ ?_); (· exact Lq)) | (refine hKC _ _ _ _ _ (zD (z2) rfl rfl rfl ?_ ?_); (· exact Lq)) | (refine hKC _ _ _ _ _ (zD (h7) rfl rfl rfl ?_ ?_); (· exact Lq)) | (refine hKC _ _ _ _ _ (zD (z3) rfl rfl rfl ?_ ?_); (· exact Lq)) | (refine hKC _ _ _ _ _ (zD (h6) rfl rfl rfl ?_ ?_); (· exact Lq))); simp (maxSteps := 9999999) only [push_cast, seval, ↓reduceIte, q1, q2, q3, q4, q5, zBV (K := 16) (k := 16) rfl sp.ws, undef, beq_self_eq_true, bne_self_eq_false]) | ((first | with_reducible refine hJ _ _ ?_ | (with_reducible refine hJ _ _ ?_ ?_; · kernel_rfl)); clear hJ hKC KC J) | ((with_reducible refine zH ?_ ?_); · rfl)
 refine zE ?_
 simp (maxSteps := 9999999) only [push_cast, seval, ↓reduceIte, show Tryz.f6.results = #[(.tmp 10)] from rfl]
 exact Lq
abbrev zGJ : Kk := .int .i64
abbrev zPv : Kk := .sl zGJ
theorem conf_int : Conf Tryz.prog (.ty 3) zGJ := .int Tryz.underlying3
theorem zOZ : Conf Tryz.prog (.ty 26) zPv := .sl Tryz.underlying26 (by kernel_rfl) (by decide) conf_int
theorem is_int {e : D} (h : Shape zGJ [e]) : ∃ n, e = .v (.int .i64 n) := by obtain ⟨n, rfl, _⟩ := zJr h; exact ⟨n, rfl⟩
theorem zRH {e : D} (h : Shape zPv [e]) : ∃ l, e = .sl false 1 (zK l) ∧ l.length ≤ maxLen := by
 obtain ⟨xs, rfl, h1, h2⟩ := zDe h
 obtain ⟨l, rfl⟩ := zBy (fun n : Int => [D.v (.int .i64 n)]) (fun x hx => by
  obtain ⟨e, rfl, he⟩ := zAC hx rfl
  obtain ⟨n, rfl⟩ := is_int he
  exact ⟨n, rfl⟩) h1
 exact ⟨l, rfl, by simpa using h2⟩
abbrev zSE : Kk := .str
abbrev zPf : Kk := .sl zSE
abbrev zRv : Kk := .int .u32
abbrev zPA : Kk := .sl zRv
abbrev zTC : Kk := .pair zPf (.pair zPA .unit)
theorem zQS : Conf Tryz.prog (.ty 9) zSE := .str Tryz.underlying9
theorem zOw : Conf Tryz.prog (.ty 22) zPf := .sl Tryz.underlying22 (by kernel_rfl) (by decide) zQS
theorem zQI : Conf Tryz.prog (.ty 98) zRv := .int Tryz.underlying98
theorem zOD : Conf Tryz.prog (.ty 23) zPA := .sl Tryz.underlying23 (by kernel_rfl) (by decide) zQI
theorem conf_lat : Conf Tryz.prog (.ty 25) (.st zTC) := .st Tryz.underlying25 (by kernel_rfl) (.pair rfl (by kernel_rfl) zOw (.pair rfl (by kernel_rfl) zOD .unit))
theorem zRy {e : D} (h : Shape zSE [e]) : ∃ s : ByteArray, e = .v (.string s) ∧ s.size ≤ maxLen := zOR h
theorem zQj {e : D} (h : Shape zPf [e]) : ∃ l, e = .sl false 1 (zM l) ∧ (∀ s ∈ l, s.size ≤ maxLen) ∧ l.length ≤ maxLen := by
 obtain ⟨xs, rfl, h1, h2⟩ := zDe h
 obtain ⟨l, rfl⟩ := zBy (fun s : { s : ByteArray // s.size ≤ maxLen } => [D.v (.string s.1)]) (fun x hx => by
  obtain ⟨e, rfl, he⟩ := zAC hx rfl
  obtain ⟨n, rfl, hn⟩ := zRy he
  exact ⟨⟨n, hn⟩, rfl⟩) h1
 refine ⟨l.map (·.1), by simp [zM, List.map_map]; rfl, fun s hs => ?_, by simpa using h2⟩
 obtain ⟨x, _, rfl⟩ := List.mem_map.1 hs
 exact x.2
theorem zRx {e : D} (h : Shape zRv [e]) : ∃ u : Nat, e = .v (.int .u32 (uv u)) ∧ u < 2 ^ 32 := by
 obtain ⟨n, rfl, hw⟩ := zJr h
 have h2 : 0 ≤ n ∧ n < 4294967296 := by
  simp only [Lit.wf, Bool.and_eq_true, decide_eq_true_eq] at hw
  have e1 : IntKind.u32.min = 0 := rfl
  have e2 : IntKind.u32.max = 4294967295 := by decide
  omega
 refine ⟨n.toNat, ?_, by omega⟩
 rw [uv, Int.toNat_of_nonneg h2.1]
theorem zQn {e : D} (h : Shape zPA [e]) : ∃ l, e = .sl false 1 (zL l) ∧ U32 l ∧ l.length ≤ maxLen := by
 obtain ⟨xs, rfl, h1, h2⟩ := zDe h
 obtain ⟨l, rfl⟩ := zBy (fun u : { u : Nat // u < 2 ^ 32 } => [D.v (.int .u32 (uv u.1))]) (fun x hx => by
  obtain ⟨e, rfl, he⟩ := zAC hx rfl
  obtain ⟨n, rfl, hn⟩ := zRx he
  exact ⟨⟨n, hn⟩, rfl⟩) h1
 refine ⟨l.map (·.1), by simp [zL, List.map_map]; rfl, fun s hs => ?_, by simpa using h2⟩
 obtain ⟨x, _, rfl⟩ := List.mem_map.1 hs
 exact x.2
structure NsOk (ns : List ByteArray) : Prop where
 szs : Szs ns
 len : ns.length ≤ maxLen
structure UsOk (us : List Nat) : Prop where
 u32 : U32 us
 len : us.length ≤ maxLen
theorem is_lat {ds : List D} (h : Shape zTC ds) : ∃ ns us, D.agg ds = .agg [.sl false 1 (zM ns), .sl false 1 (zL us)] ∧ NsOk ns ∧ UsOk us := by
 obtain ⟨a, b, rfl, h1, h2⟩ := zAA h
 obtain ⟨c, d, rfl, h3, h4⟩ := zAA h2
 cases zCS h4
 obtain ⟨e1, rfl, h1⟩ := zAC h1 rfl
 obtain ⟨e2, rfl, h3⟩ := zAC h3 rfl
 obtain ⟨ns, rfl, h5, h6⟩ := zQj h1
 obtain ⟨us, rfl, h7, h8⟩ := zQn h3
 exact ⟨ns, us, rfl, ⟨fun s hs => Nat.le_trans (h5 s hs) (by decide), h6⟩, ⟨h7, h8⟩⟩
abbrev zIY : Kk := .pair zGJ (.pair zGJ .unit)
theorem zNq {ds : List D} (h : Shape zIY ds) : ∃ p : Int × Int, ds = [.v (.int .i64 p.1), .v (.int .i64 p.2)] := by
 obtain ⟨a, b, rfl, h1, h2⟩ := zAA h
 obtain ⟨c, d, rfl, h3, h4⟩ := zAA h2
 cases zCS h4
 obtain ⟨e1, rfl, h1⟩ := zAC h1 rfl
 obtain ⟨e2, rfl, h3⟩ := zAC h3 rfl
 obtain ⟨n, rfl⟩ := is_int h1
 obtain ⟨m, rfl⟩ := is_int h3
 exact ⟨(n, m), rfl⟩
abbrev zMI : Kk := .pair zGJ (.pair zGJ (.pair zGJ .unit))
abbrev zLO : Kk := .pair .bool (.pair zGJ (.pair zGJ .unit))
abbrev zTA : Kk := .pair (.st zIY) (.pair (.sl (.st zMI)) (.pair (.sl (.st zIY)) (.pair (.sl (.st zLO)) (.pair (.sl (.st zIY)) .unit))))
theorem zJS : Conf Tryz.prog (.ty 34) (.st zIY) := .st Tryz.underlying34 (by kernel_rfl) (.pair rfl (by kernel_rfl) conf_int (.pair rfl (by kernel_rfl) conf_int .unit))
theorem zMR : Conf Tryz.prog (.ty 100) (.st zMI) := .st Tryz.underlying100 (by kernel_rfl) (.pair rfl (by kernel_rfl) conf_int (.pair rfl (by kernel_rfl) conf_int (.pair rfl (by kernel_rfl) conf_int .unit)))
theorem zOq : Conf Tryz.prog (.ty 104) (.st zLO) := .st Tryz.underlying104 (by kernel_rfl) (.pair rfl (by kernel_rfl) (.bool Tryz.underlying4) (.pair rfl (by kernel_rfl) conf_int (.pair rfl (by kernel_rfl) conf_int .unit)))
theorem zIi : Conf Tryz.prog (.ty 36) (.sl (.st zIY)) := .sl Tryz.underlying36 (by kernel_rfl) (by decide) zJS
theorem zLm : Conf Tryz.prog (.ty 35) (.sl (.st zMI)) := .sl Tryz.underlying35 (by kernel_rfl) (by decide) zMR
theorem zMX : Conf Tryz.prog (.ty 37) (.sl (.st zLO)) := .sl Tryz.underlying37 (by kernel_rfl) (by decide) zOq
theorem conf_state : Conf Tryz.prog (.ty 39) (.st zTA) := .st Tryz.underlying39 (by kernel_rfl) (.pair rfl (by kernel_rfl) zJS (.pair rfl (by kernel_rfl) zLm (.pair rfl (by kernel_rfl) zIi (.pair rfl (by kernel_rfl) zMX (.pair rfl (by kernel_rfl) zIi .unit)))))
theorem zQt {ds : List D} (h : Shape zMI ds) : ∃ p : Int × Int × Int, ds = [.v (.int .i64 p.1), .v (.int .i64 p.2.1), .v (.int .i64 p.2.2)] := by
 obtain ⟨a, b, rfl, h1, h2⟩ := zAA h
 obtain ⟨c, d, rfl, h3, h4⟩ := zAA h2
 obtain ⟨e, g, rfl, h5, h6⟩ := zAA h4
 cases zCS h6
 obtain ⟨e1, rfl, h1⟩ := zAC h1 rfl
 obtain ⟨e2, rfl, h3⟩ := zAC h3 rfl
 obtain ⟨e3, rfl, h5⟩ := zAC h5 rfl
 obtain ⟨n, rfl⟩ := is_int h1
 obtain ⟨m, rfl⟩ := is_int h3
 obtain ⟨k, rfl⟩ := is_int h5
 exact ⟨(n, m, k), rfl⟩
theorem zPJ {ds : List D} (h : Shape zLO ds) : ∃ p : Bool × Int × Int, ds = [.v (.bool p.1), .v (.int .i64 p.2.1), .v (.int .i64 p.2.2)] := by
 obtain ⟨a, b, rfl, h1, h2⟩ := zAA h
 obtain ⟨c, d, rfl, h3, h4⟩ := zAA h2
 obtain ⟨e, g, rfl, h5, h6⟩ := zAA h4
 cases zCS h6
 obtain ⟨e1, rfl, h1⟩ := zAC h1 rfl
 obtain ⟨e2, rfl, h3⟩ := zAC h3 rfl
 obtain ⟨e3, rfl, h5⟩ := zAC h5 rfl
 obtain ⟨n, rfl⟩ := zMZ h1
 obtain ⟨m, rfl⟩ := is_int h3
 obtain ⟨k, rfl⟩ := is_int h5
 exact ⟨(n, m, k), rfl⟩
theorem zLz {e : D} (h : Shape (.sl (.st zIY)) [e]) : ∃ l, e = .sl false 2 (zR l) := by
 obtain ⟨xs, rfl, h1, h2⟩ := zDe h
 obtain ⟨l, rfl⟩ := zBy (fun p : Int × Int => [D.v (.int .i64 p.1), .v (.int .i64 p.2)]) (fun x hx => zNq (zGA hx)) h1
 exact ⟨l, rfl⟩
theorem zNz {e : D} (h : Shape (.sl (.st zMI)) [e]) : ∃ l, e = .sl false 3 (zh l) := by
 obtain ⟨xs, rfl, h1, h2⟩ := zDe h
 obtain ⟨l, rfl⟩ := zBy (fun p : Int × Int × Int => [D.v (.int .i64 p.1), .v (.int .i64 p.2.1), .v (.int .i64 p.2.2)]) (fun x hx => zQt (zGA hx)) h1
 exact ⟨l, rfl⟩
theorem zPe {e : D} (h : Shape (.sl (.st zLO)) [e]) : ∃ l, e = .sl false 3 (zc l) := by
 obtain ⟨xs, rfl, h1, h2⟩ := zDe h
 obtain ⟨l, rfl⟩ := zBy (fun p : Bool × Int × Int => [D.v (.bool p.1), .v (.int .i64 p.2.1), .v (.int .i64 p.2.2)]) (fun x hx => zPJ (zGA hx)) h1
 exact ⟨l, rfl⟩
theorem is_stateK {ds : List D} (h : Shape zTA ds) : ∃ s : Sta, D.agg ds = .agg (zAN false false false false s) := by
 obtain ⟨a, b, rfl, h1, h2⟩ := zAA h
 obtain ⟨c, d, rfl, h3, h4⟩ := zAA h2
 obtain ⟨e, g, rfl, h5, h6⟩ := zAA h4
 obtain ⟨i, j, rfl, h7, h8⟩ := zAA h6
 obtain ⟨k, l, rfl, h9, h10⟩ := zAA h8
 cases zCS h10
 obtain ⟨p, rfl⟩ := zNq (zGA h1)
 obtain ⟨e1, rfl, h3⟩ := zAC h3 rfl
 obtain ⟨e2, rfl, h5⟩ := zAC h5 rfl
 obtain ⟨e3, rfl, h7⟩ := zAC h7 rfl
 obtain ⟨e4, rfl, h9⟩ := zAC h9 rfl
 obtain ⟨l1, rfl⟩ := zNz h3
 obtain ⟨l2, rfl⟩ := zLz h5
 obtain ⟨l3, rfl⟩ := zPe h7
 obtain ⟨l4, rfl⟩ := zLz h9
 exact ⟨⟨p.1, p.2, l1, l2, l3, l4⟩, rfl⟩
abbrev zQX : Kk := .pair zGJ (.pair zGJ (.pair zGJ (.pair zGJ (.pair zPv .unit))))
theorem conf_space : Conf Tryz.prog (.ty 28) (.st zQX) := .st Tryz.underlying28 (by kernel_rfl) (.pair rfl (by kernel_rfl) conf_int (.pair rfl (by kernel_rfl) conf_int (.pair rfl (by kernel_rfl) conf_int (.pair rfl (by kernel_rfl) conf_int (.pair rfl (by kernel_rfl) zOZ .unit)))))
theorem is_space {ds : List D} (h : Shape zQX ds) : ∃ sp : Sp, D.agg ds = .agg (spF false sp) := by
 obtain ⟨a1, b1, rfl, h1, g1⟩ := zAA h
 obtain ⟨a2, b2, rfl, h2, g2⟩ := zAA g1
 obtain ⟨a3, b3, rfl, h3, g3⟩ := zAA g2
 obtain ⟨a4, b4, rfl, h4, g4⟩ := zAA g3
 obtain ⟨a5, b5, rfl, h5, g5⟩ := zAA g4
 cases zCS g5
 obtain ⟨e1, rfl, h1⟩ := zAC h1 rfl
 obtain ⟨e2, rfl, h2⟩ := zAC h2 rfl
 obtain ⟨e3, rfl, h3⟩ := zAC h3 rfl
 obtain ⟨e4, rfl, h4⟩ := zAC h4 rfl
 obtain ⟨e5, rfl, h5⟩ := zAC h5 rfl
 obtain ⟨n1, rfl⟩ := is_int h1
 obtain ⟨n2, rfl⟩ := is_int h2
 obtain ⟨n3, rfl⟩ := is_int h3
 obtain ⟨n4, rfl⟩ := is_int h4
 obtain ⟨ws, rfl, _⟩ := zRH h5
 exact ⟨⟨n1, n2, n3, n4, ws⟩, rfl⟩
end Go.Proofs.YtabliglgeiajlaaGreat.AM
