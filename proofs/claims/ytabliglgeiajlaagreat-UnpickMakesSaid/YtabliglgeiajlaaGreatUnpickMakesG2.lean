/- Walks and plain laws, put together: part 2. -/
import Derived.Test.YtabliglgeiajlaaGreatUnpickMakesG0
import Derived.Test.YtabliglgeiajlaaGreatMc
import Derived.Test.YtabliglgeiajlaaGreatUnpickMakesG1
set_option linter.unusedSimpArgs false
set_option linter.unusedVariables false
namespace Go.Proofs.YtabliglgeiajlaaGreat.AM
open Go Go.RowKit Go.Proofs
set_option maxRecDepth 100000
set_option maxHeartbeats 4000000
theorem Fn.nil1 {P : Program} {f : Nat} {full : Bool} {sz : Nat} {res : D} {out : List Slot} (h : ∀ A cap, Fn P f [.v (.slice A 0 cap)] [] res out) : Fn P f [.sl full sz []] [] res out where
 spec := fun N0 ρ w vs hp hs hr => by
  have h0 : 0 < vs.size := by rw [hs]; simp
  have hv : vs[0]? = some vs[0] := Array.getElem?_eq_getElem h0
  have hrep := (hr 0 _ _ rfl hv).sl_inv
  generalize hu : vs[0] = u at hrep
  cases hrep with
  | sl0 _ _ A cap _ =>
   refine (h A cap).spec N0 ρ w vs hp (by rw [hs]; rfl) fun j d u hd hu' => ?_
   cases j with
   | zero =>
    simp only [List.getElem?_cons_zero, Option.some.injEq] at hd
    rw [hv, hu] at hu'
    cases hu'
    subst hd
    exact .fro _ _ (.v _)
   | succ j => simp at hd
  | sl _ _ _ b o cap n g hn hpos => simp at hn; omega
 enter := (h none 0).enter
theorem zKF (f : Bool) (l : List (Int × Int)) (h0 : 0 < l.length) (hb : l.length ≤ 1000000) : Fn Tryz.prog 216 [.sl f 2 (za l)] [] (.ref 0 0 l.length) [.ent ⟨0, some 2, 34, zk l, .cells⟩] := by
 have hnl := zHZ h0
 have hfl : (za l).flatten = zk l := rfl
 refine Fn.of (fn := Tryz.f216) (by kernel_rfl) rfl (by kernel_rfl) ⟨[.sl f 2 (za l), .v undef, .v undef, .v undef, .v undef, .v undef, .v undef, .v undef], []⟩ rfl ?_
 repeat' first | (with_reducible first | refine zA ?_ | refine zB ?_ | refine zJ ?_) | ((with_reducible refine And.intro ?_ ?_); · exact Sq) | ((with_reducible refine zC fun KC J hJ hKC => ?_); simp (maxSteps := 9999999) only [push_cast, seval, ↓reduceIte, hnl, hfl, Nat.zero_add]) | ((with_reducible refine hJ _ _ ?_); clear hJ hKC KC J) | ((with_reducible refine zH ?_ ?_); · rfl)
 refine zF ?_
 refine zCv [1] ?_ (by simp) ?_
 ·simp (maxSteps := 9999999) only [push_cast, seval, ↓reduceIte, show Tryz.f216.results = #[.tmp 2] from rfl, pick, mOf, idx, zL, zV]
  exact zK _
 ·intro k hk
  exact absurd hk (by simp)
theorem zIK (f : Bool) : Fn (Tryz.prog) 216 [.sl f 2 []] [] (.sl true 2 []) [] := by
 refine Fn.nil1 fun A cap => ?_
 refine Fn.of (fn := Tryz.f216) (by kernel_rfl) rfl (by kernel_rfl) ⟨[.v (.slice A 0 cap), .v undef, .v undef, .v undef, .v undef, .v undef, .v undef, .v undef], []⟩ rfl ?_
 cases A
 all_goals
  repeat' first | (with_reducible first | refine zA ?_ | refine zB ?_ | refine zb ?_ | refine zF ?_ | refine zJ ?_) | ((with_reducible refine zC fun KC J hJ hKC => ?_); simp (maxSteps := 9999999) only [push_cast, seval, ↓reduceIte, Option.isNone_none, Option.isNone_some]) | ((with_reducible refine hJ _ _ ?_); clear hJ hKC KC J) | ((with_reducible refine zG ?_ ?_); · rfl) | ((with_reducible refine zH ?_ ?_); · rfl)
  refine zE ?_
  simp (maxSteps := 9999999) only [push_cast, seval, ↓reduceIte, show Tryz.f216.results = #[(.tmp 2)] from rfl]
  exact Lq
theorem zJt (f : Bool) (xs : List (Int × Int)) (cf : Nat) (caps : List D) (p : Int × Int → Bool) (hb : xs.length ≤ 9223372036854775807) (hc : zr caps = true)
  (hp : ∀ x ∈ xs, Fn Tryz.prog cf (.agg [.v (.int .i64 x.1), .v (.int .i64 x.2)] :: caps) [] (.v (.bool (p x))) []) : Fn Tryz.prog 197 [.sl f 2 (za xs), .fn cf caps] [] (.v (.int .i64 (zDt p xs))) [] := by
 refine Fn.of (fn := Tryz.f197) (by kernel_rfl) rfl (by kernel_rfl) ⟨[.sl f 2 (za xs), .fn cf caps, .v undef, .v undef, .v undef, .v undef, .v undef, .v undef, .v undef, .v undef, .v undef, .v undef, .v undef, .v undef, .v undef, .v undef, .v undef, .v undef, .v undef], []⟩ rfl ?_
 repeat' first | (with_reducible first | refine zA ?_ | refine zB ?_ | refine zI ?_) | ((with_reducible refine zC fun KC J hJ hKC => ?_); simp (maxSteps := 9999999) only [push_cast, seval, ↓reduceIte]) | ((with_reducible refine hJ _ _ ?_); clear hJ hKC KC J)
 refine zAJ (γ := {i : Nat // i ≤ xs.length ∧ ∀ (j : Nat) (hj : j < xs.length), j < i → p xs[j] = false}) (fun i => ⟨[.sl f 2 (za xs), .fn cf caps, .any, .any, .any, .any, .any, .v (.int .i64 xs.length), .v (.int .i64 i.1), .any, .any, .any, .any, .any, .any, .any, .any, .any, .any], []⟩) (fun i => xs.length - i.1) ⟨0, by simp⟩ ⟨?_, Fq⟩ ?_
 ·exact Lq
 ·rintro ⟨i, hi, hn⟩
  by_cases hlt : (i : Int) < (xs.length : Int)
  ·have hx : xs[i]? = some xs[i] := List.getElem?_eq_getElem (by omega)
   have hfn := hp xs[i] (List.getElem_mem (by omega))
   repeat' first | (with_reducible first | refine zA ?_ | refine zB ?_ | refine zb ?_ | refine zP ?_ | refine zAC ?_ | refine zF ?_ | refine zJ ?_ | refine zI ?_) | ((with_reducible refine And.intro ?_ ?_); · exact Sq) | ((first | with_reducible refine zC fun KC J hJ hKC => ?_ | (refine hKC _ _ _ _ _ (zD (hfn) rfl rfl rfl ?_ ?_); (· exact Lq))); simp (maxSteps := 9999999) only [push_cast, seval, ↓reduceIte, hlt, zBh hx, zp (i := i) (n := xs.length) (by omega) hb]) | ((with_reducible refine hJ _ _ ?_); clear hJ hKC KC J) | ((with_reducible refine zG ?_ ?_); · rfl) | (refine zAa rfl (fun h => ?_) (fun h => ?_) <;> try simp only [decide_eq_true_eq, decide_eq_false_iff_not, Bool.not_eq_true', Bool.not_eq_false', beq_iff_eq, bne_iff_ne, ne_eq, Bool.not_eq_true, Bool.or_eq_true, Bool.and_eq_true, Bool.or_eq_false_iff, Bool.and_eq_false_imp, beq_eq_false_iff_ne, bne_eq_false_iff_eq] at h)
   ·refine zE ?_
    simp (maxSteps := 9999999) only [push_cast, seval, ↓reduceIte, show Tryz.f197.results = #[(.tmp 4)] from rfl]
    exact zAk (by rw [zCt (by omega) h hn])
   ·refine ⟨⟨i + 1, by omega, fun j hj hji => ?_⟩, by simp only; omega, ?_, Fq⟩
    ·by_cases he : j = i
     ·subst he; exact h
     ·exact hn j hj (by omega)
    ·exact Lq
  ·skip
   repeat' first | (with_reducible first | refine zA ?_ | refine zB ?_ | refine zm ?_ | refine zl ?_ | refine zF ?_ | refine zZ ?_) | ((with_reducible refine zC fun KC J hJ hKC => ?_); simp (maxSteps := 9999999) only [push_cast, seval, ↓reduceIte, hlt]) | ((with_reducible refine hJ _ _ ?_); clear hJ hKC KC J) | ((with_reducible refine zH ?_ ?_); · rfl)
   refine zE ?_
   simp (maxSteps := 9999999) only [push_cast, seval, ↓reduceIte, show Tryz.f197.results = #[(.tmp 4)] from rfl]
   exact zAk (by rw [zBf (fun j hj => hn j hj (by omega))])
theorem zFY {l : List (Int × Int)} {n : Nat} {x : Int × Int} (h : l[n]? = some x) : ((zk l).drop (n * 2)).take 2 = [.v (.int .i64 x.1), .v (.int .i64 x.2)] := by
 obtain ⟨hn, rfl⟩ := List.getElem?_eq_some_iff.1 h
 rw [zEx, List.drop_eq_getElem_cons hn]
 rfl
theorem zOI (l : List (Int × Int)) {a : Nat} (x : Int × Int) (h : a < l.length) : zk (l.set a x) = (zk l).take (a * 2) ++ [.v (.int .i64 x.1), .v (.int .i64 x.2)] ++ (zk l).drop (a * 2 + 2) := by
 rw [List.set_eq_take_append_cons_drop, if_pos h, zFw, zFG]
 have h2 : a * 2 + 2 = (a + 1) * 2 := by omega
 rw [h2, zEx]
 simp [zk, za]
theorem zIf (xs : List (Int × Int)) (n : Nat) (hn0 : xs.length = n) (cf : Nat) (caps : List D) (p : Int × Int → Bool) (hb : n ≤ 1000000) (hc : zr caps = true)
  (hp : ∀ x ∈ xs, Fn Tryz.prog cf (.agg [.v (.int .i64 x.1), .v (.int .i64 x.2)] :: caps) [] (.v (.bool (p x))) []) : Fn (Tryz.prog) 197 [.ref 0 0 n, .fn cf caps] [.ent ⟨0, some 2, 34, zk xs, .cells⟩] (.v (.int .i64 (zDt p xs))) [.ent ⟨0, some 2, 34, zk xs, .cells⟩] := by
 have hlC : (zk xs).length = n * 2 := by rw [zAp, hn0]
 refine Fn.of (fn := Tryz.f197) (by kernel_rfl) rfl (by kernel_rfl) ⟨[.ref 0 0 n, .fn cf caps, .v undef, .v undef, .v undef, .v undef, .v undef, .v undef, .v undef, .v undef, .v undef, .v undef, .v undef, .v undef, .v undef, .v undef, .v undef, .v undef, .v undef], [.ent ⟨0, some 2, 34, zk xs, .cells⟩]⟩ rfl ?_
 repeat' first | (with_reducible first | refine zA ?_ | refine zB ?_ | refine zI ?_) | ((with_reducible refine zC fun KC J hJ hKC => ?_); simp (maxSteps := 9999999) only [push_cast, seval, ↓reduceIte, hlC]) | ((with_reducible refine hJ _ _ ?_); clear hJ hKC KC J)
 refine zAJ (γ := {i : Nat // i ≤ n ∧ ∀ (j : Nat) (hj : j < xs.length), j < i → p xs[j] = false}) (fun i => ⟨[.ref 0 0 n, .fn cf caps, .any, .any, .any, .any, .any, .v (.int .i64 n), .v (.int .i64 i.1), .any, .any, .any, .any, .any, .any, .any, .any, .any, .any], [.ent ⟨0, some 2, 34, zk xs, .cells⟩]⟩) (fun i => n - i.1) ⟨0, by simp⟩ ⟨?_, Fq⟩ ?_
 ·exact Lq
 ·rintro ⟨i, hi, hn⟩
  by_cases hlt : (i : Int) < (n : Int)
  ·have hx : xs[i]? = some xs[i] := List.getElem?_eq_getElem (by omega)
   have hfn := hp xs[i] (List.getElem_mem (by omega))
   have hat := zFY hx
   repeat' first | (with_reducible first | refine zA ?_ | refine zB ?_ | refine zb ?_ | refine zP ?_ | refine zAC ?_ | refine zF ?_ | refine zJ ?_ | refine zI ?_) | ((with_reducible refine And.intro ?_ ?_); · exact Sq) | ((first | with_reducible refine zC fun KC J hJ hKC => ?_ | (refine hKC _ _ _ _ _ (zD (hfn) rfl rfl rfl ?_ ?_); (· exact Lq))); simp (maxSteps := 9999999) only [push_cast, seval, ↓reduceIte, hlt, hlC, hat, zp (i := i) (n := n) (by omega) (by omega)]) | ((with_reducible refine hJ _ _ ?_); clear hJ hKC KC J) | ((with_reducible refine zG ?_ ?_); · rfl) | (refine zAa rfl (fun h => ?_) (fun h => ?_) <;> try simp only [decide_eq_true_eq, decide_eq_false_iff_not, Bool.not_eq_true', Bool.not_eq_false', beq_iff_eq, bne_iff_ne, ne_eq, Bool.not_eq_true, Bool.or_eq_true, Bool.and_eq_true, Bool.or_eq_false_iff, Bool.and_eq_false_imp, beq_eq_false_iff_ne, bne_eq_false_iff_eq] at h)
   ·refine zd ?_
    simp (maxSteps := 9999999) only [push_cast, seval, ↓reduceIte, show Tryz.f197.results = #[(.tmp 4)] from rfl]
    exact ⟨(by show List.map _ [0] = _; simp only [List.map_cons, List.map_nil, zAZ, zL, zV]), zAk (by rw [zCt (by omega) h hn])⟩
   ·refine ⟨⟨i + 1, by omega, fun j hj hji => ?_⟩, by simp only; omega, ?_, Fq⟩
    ·by_cases he : j = i
     ·subst he; exact h
     ·exact hn j hj (by omega)
    ·exact Lq
  ·skip
   repeat' first | (with_reducible first | refine zA ?_ | refine zB ?_ | refine zm ?_ | refine zl ?_ | refine zF ?_ | refine zZ ?_) | ((with_reducible refine zC fun KC J hJ hKC => ?_); simp (maxSteps := 9999999) only [push_cast, seval, ↓reduceIte, hlt, hlC]) | ((with_reducible refine hJ _ _ ?_); clear hJ hKC KC J) | ((with_reducible refine zH ?_ ?_); · rfl)
   refine zd ?_
   simp (maxSteps := 9999999) only [push_cast, seval, ↓reduceIte, show Tryz.f197.results = #[(.tmp 4)] from rfl]
   exact ⟨(by show List.map _ [0] = _; simp only [List.map_cons, List.map_nil, zAZ, zL, zV]), zAk (by rw [zBf (fun j hj => hn j hj (by omega))])⟩
theorem zNh {α : Type} (p : α → Bool) (xs : List α) : (zDt p xs = -1 ∧ ∀ x ∈ xs, p x = false) ∨ ∃ i, zDt p xs = (i : Nat) ∧ ∃ h : i < xs.length, p xs[i] = true ∧ ∀ (j : Nat) (hj : j < xs.length), j < i → p xs[j] = false := by
 unfold zDt
 cases h : xs.findIdx? p with
 | none =>
  rw [List.findIdx?_eq_none_iff] at h
  exact .inl ⟨rfl, h⟩
 | some i =>
  rw [List.findIdx?_eq_some_iff_getElem] at h
  obtain ⟨h1, h2, h3⟩ := h
  exact .inr ⟨i, rfl, h1, h2, fun j hj hji => by simpa using h3 j hji⟩
theorem zHm (cf : Nat) (caps : List D) (hc : zr caps = true) : Fn (Tryz.prog) 215 [.sl true 2 [], .fn cf caps] [] (.sl true 2 []) [] := by
 have hif := zJt true [] cf caps (fun _ => false) (by simp) hc (fun x hx => by cases hx)
 refine Fn.of (fn := Tryz.f215) (by kernel_rfl) rfl (by kernel_rfl) ⟨[.sl true 2 [], .fn cf caps, .v undef, .v undef, .v undef, .v undef, .v undef, .v undef, .v undef, .v undef, .v undef, .v undef, .v undef, .v undef, .v undef, .v undef, .v undef, .v undef, .v undef, .v undef, .v undef, .v undef, .v undef, .v undef, .v undef, .v undef, .v undef, .v undef, .v undef, .v undef, .v undef, .v undef, .v undef, .v undef, .v undef, .v undef, .v undef, .v undef, .v undef, .v undef, .v undef, .v undef], []⟩ rfl ?_
 repeat' first | (with_reducible first | refine zA ?_ | refine zB ?_ | refine zb ?_ | refine zF ?_) | ((first | with_reducible refine zC fun KC J hJ hKC => ?_ | (refine hKC _ _ _ _ _ (zD (hif) rfl rfl rfl ?_ ?_); (· exact Lq))); simp (maxSteps := 9999999) only [push_cast, seval, ↓reduceIte, (show zDt (fun _ : Int × Int => false) [] = -1 from rfl)]) | ((with_reducible refine hJ _ _ ?_); clear hJ hKC KC J) | ((with_reducible refine zG ?_ ?_); · rfl)
 refine zE ?_
 simp (maxSteps := 9999999) only [push_cast, seval, ↓reduceIte, show Tryz.f215.results = #[(.tmp 4)] from rfl]
 exact Lq
theorem zIO (l : List (Int × Int)) (n : Nat) (hn0 : l.length = n) (cf : Nat) (caps : List D) (q : Int × Int → Bool) (hb : n ≤ 1000000) (hc : zr caps = true)
  (hp : ∀ x ∈ l, Fn Tryz.prog cf (.agg [.v (.int .i64 x.1), .v (.int .i64 x.2)] :: caps) [] (.v (.bool (!q x))) []) :
  Fn (Tryz.prog) 215 [.ref 0 0 n, .fn cf caps] [.ent ⟨0, some 2, 34, zk l, .cells⟩] (.sl false 2 (za (l.filter q))) [.dead] := by
 have hif := zIf l n hn0 cf caps (fun x => !q x) hb hc hp
 have hlC : ∀ l : List (Int × Int), l.length = n → (zk l).length = n * 2 := fun l h => by rw [zAp, h]
 have hbm : Nat.beq 0 0 = true := rfl
 refine Fn.of (fn := Tryz.f215) (by kernel_rfl) rfl (by kernel_rfl) ⟨[.ref 0 0 n, .fn cf caps, .v undef, .v undef, .v undef, .v undef, .v undef, .v undef, .v undef, .v undef, .v undef, .v undef, .v undef, .v undef, .v undef, .v undef, .v undef, .v undef, .v undef, .v undef, .v undef, .v undef, .v undef, .v undef, .v undef, .v undef, .v undef, .v undef, .v undef, .v undef, .v undef, .v undef, .v undef, .v undef, .v undef, .v undef, .v undef, .v undef, .v undef, .v undef, .v undef, .v undef], [.ent ⟨0, some 2, 34, zk l, .cells⟩]⟩ rfl ?_
 rcases zNh (fun x => !q x) l with ⟨hi, hno⟩ | ⟨i, hi, hil, hpi, hno⟩
 ·have hfl : l.filter q = l := List.filter_eq_self.2 fun x hx => by simpa using hno x hx
  rw [hfl]
  have hcS : zAh 2 n (zk l) = za l := by rw [← hn0]; exact zGF l
  repeat' first | (with_reducible first | refine zA ?_ | refine zB ?_) | ((first | with_reducible refine zC fun KC J hJ hKC => ?_ | (refine hKC _ _ _ _ _ (zT [0] hif rfl rfl rfl (by decide) (by simp) rfl (by simp only [push_cast, pick, mOf, idx, zL, zV]) (by simp only [push_cast, mOf, idx]; exact ⟨zK _, zOP hc, trivial⟩) ?_))); simp (maxSteps := 9999999) only [push_cast, seval, ↓reduceIte, hi, zX, zN, zL, pick, mOf, idx, zV]) | ((with_reducible refine hJ _ _ ?_); clear hJ hKC KC J) | ((with_reducible refine zG ?_ ?_); · rfl)
  refine zAe 0 rfl (by simp (maxSteps := 9999999) only [push_cast, seval, ↓reduceIte]) ?_
  simp (maxSteps := 9999999) only [push_cast, seval, ↓reduceIte, zAK, zi, fr3, fr2, fr1, fr0, zq, zn, hbm, hlC l hn0, hcS]
  refine zF ?_
  refine zd ?_
  simp (maxSteps := 9999999) only [push_cast, seval, ↓reduceIte, show Tryz.f215.results = #[(.tmp 4)] from rfl]
  exact ⟨rfl, zK _⟩
 ·skip
  repeat' first | (with_reducible first | refine zA ?_ | refine zB ?_ | refine zJ ?_ | refine zI ?_) | ((first | with_reducible refine zC fun KC J hJ hKC => ?_ | (refine hKC _ _ _ _ _ (zT [0] hif rfl rfl rfl (by decide) (by simp) rfl (by simp only [push_cast, pick, mOf, idx, zL, zV]) (by simp only [push_cast, mOf, idx]; exact ⟨zK _, zOP hc, trivial⟩) ?_))); simp (maxSteps := 9999999) only [push_cast, seval, ↓reduceIte, hi, zX, zN, zL, pick, mOf, idx, zV]) | ((with_reducible refine hJ _ _ ?_); clear hJ hKC KC J) | ((with_reducible refine zH ?_ ?_); · rfl)
  refine zw 1 (γ := {s : List (Int × Int) × Nat × Nat // s.1.length = n ∧ s.2.1 ≤ s.2.2 ∧ s.2.2 ≤ n ∧ s.1.take s.2.1 = (l.take s.2.2).filter q ∧ s.1.drop s.2.2 = l.drop s.2.2}) (fun s => ⟨[.ref 0 0 n, .fn cf caps, .any, .any, .any, .v (.int .i64 s.1.2.1), .v (.int .i64 s.1.2.2), .any, .any, .any, .any, .any, .any, .any, .any, .any, .any, .any, .any, .any, .any, .any, .any, .any, .any, .any, .any, .any, .any, .any, .any, .any, .any, .any, .any, .any, .any, .any, .any, .any, .any, .any], [.ent ⟨0, some 2, 34, zk s.1.1, .cells⟩]⟩) (fun s => n - s.1.2.2) ⟨(l, i, i + 1), hn0, by simp, by simp only; omega, ?_, rfl⟩ (fun s => rfl) (fun s => ?_) (fun s => ?_) ⟨?_, ?_⟩ ?_
  ·simp only
   rw [List.take_succ_eq_append_getElem hil, List.filter_append, List.filter_eq_self.2 (fun x hx => ?_)]
   ·simp at hpi; simp [hpi]
   ·obtain ⟨j, hj, rfl⟩ := List.mem_iff_getElem.1 hx
    have hj2 : j < i := by rw [List.length_take] at hj; omega
    have := hno j (by omega) hj2
    simpa using this
  ·refine zAF ?_
   simp only [List.map_cons, List.map_nil, zL, zV]
  ·simp only [List.map_cons, List.map_nil, show ren (mOf (List.range 1)) (.fn cf caps) = .fn cf caps from by show D.fn cf (caps.map _) = _; rw [zDH (fun d hd => zEJ hd) hc]]
   rfl
  ·simp only [zp (i := i) (n := n) (by omega) (by omega)]
   exact Lq
  ·exact Fq
  rintro ⟨⟨l', a, b⟩, h1, h2, h3, h4, h5⟩
  simp only at h1 h2 h3 h4 h5 ⊢
  by_cases hlt : (b : Int) < (n : Int)
  ·have hbn : b < n := by omega
   have hx : l[b]? = some l[b] := List.getElem?_eq_getElem (by omega)
   have hxm : l[b] ∈ l := List.getElem_mem (by omega)
   obtain ⟨x, hx0⟩ : ∃ x, l[b] = x := ⟨_, rfl⟩
   rw [hx0] at hx hxm
   have hx' : l'[b]? = some x := by
    have := congrArg (fun m => m[0]?) h5
    simp only [List.getElem?_drop, Nat.add_zero] at this
    rw [this, hx]
   have hfn := hp x hxm
   have hat := zFY hx'
   have htk : (l.take (b + 1)).filter q = (l.take b).filter q ++ (if q x = true then [x] else []) := by
    rw [List.take_succ_eq_append_getElem (by omega), List.filter_append, hx0]
    by_cases h : q x = true <;> simp [h]
   have hdr : l'.drop (b + 1) = l.drop (b + 1) := by
    have := congrArg (List.drop 1) h5
    simpa [List.drop_drop, Nat.add_comm] using this
   cases hq : q x with
   | true =>
    rw [hq] at hfn
    have hset := zOI l' x (a := a) (by omega)
    rw [hq, if_pos rfl] at htk
    repeat' first | (with_reducible first | refine zA ?_ | refine zB ?_ | refine zP ?_ | refine zJ ?_ | refine zI ?_) | ((with_reducible refine And.intro ?_ ?_); · exact Sq) | ((first | with_reducible refine zC fun KC J hJ hKC => ?_ | (refine hKC _ _ _ _ _ (zD (hfn) rfl rfl rfl ?_ ?_); (· exact Lq))); simp (maxSteps := 9999999) only [push_cast, seval, ↓reduceIte, hlt, hlC l' h1, hat, zp (i := a) (n := n) (by omega) (by omega), zp (i := b) (n := n) (by omega) (by omega)]) | ((with_reducible refine hJ _ _ ?_); clear hJ hKC KC J) | ((with_reducible refine zG ?_ ?_); · rfl)
    refine ⟨⟨(l'.set a x, a + 1, b + 1), by simp [h1], by simp only; omega, by simp only; omega, ?_, ?_⟩, by simp only; omega, ?_, ?_⟩
    ·simp only
     rw [htk, ← h4, List.take_succ_eq_append_getElem (by simp; omega), List.getElem_set_self, List.take_set_of_le (Nat.le_refl _)]
    ·simp only
     rw [List.drop_set_of_lt (by omega), hdr]
    ·exact Lq
    ·simp only [hset]
     exact ⟨_, rfl⟩
   | false =>
    rw [hq] at hfn
    rw [hq, if_neg (by simp), List.append_nil] at htk
    repeat' first | (with_reducible first | refine zA ?_ | refine zB ?_ | refine zP ?_ | refine zJ ?_ | refine zI ?_) | ((with_reducible refine And.intro ?_ ?_); · exact Sq) | ((first | with_reducible refine zC fun KC J hJ hKC => ?_ | (refine hKC _ _ _ _ _ (zD (hfn) rfl rfl rfl ?_ ?_); (· exact Lq))); simp (maxSteps := 9999999) only [push_cast, seval, ↓reduceIte, hlt, hlC l' h1, hat, zp (i := b) (n := n) (by omega) (by omega)]) | ((with_reducible refine hJ _ _ ?_); clear hJ hKC KC J) | ((with_reducible refine zG ?_ ?_); · rfl) | ((with_reducible refine zH ?_ ?_); · rfl)
    refine ⟨⟨(l', a, b + 1), h1, by simp only; omega, by simp only; omega, by simp only; rw [htk]; exact h4, hdr⟩, by simp only; omega, ?_, ⟨_, rfl⟩⟩
    exact Lq
  ·have hbn : b = n := by omega
   subst hbn
   rw [← hn0, List.take_length] at h4
   have hT : (zk l').take (a * 2) = zk (l.filter q) := by rw [zFG, h4]
   have hFl : (l.filter q).length = a := by rw [← h4]; simp; omega
   obtain ⟨F, hF⟩ : ∃ F, l.filter q = F := ⟨_, rfl⟩
   rw [hF] at hT hFl ⊢
   have hFC : (zk F).length = a * 2 := by rw [zAp, hFl]
   have hcS : zAh 2 a (zk F) = za F := by rw [← hFl]; exact zGF F
   repeat' first | (with_reducible first | refine zA ?_ | refine zB ?_ | refine zm ?_ | refine zl ?_ | refine zZ ?_) | ((with_reducible refine And.intro ?_ ?_); · exact Sq) | ((with_reducible refine zC fun KC J hJ hKC => ?_); simp (maxSteps := 9999999) only [push_cast, seval, ↓reduceIte, hlt, hlC l' h1, hT]) | ((with_reducible refine hJ _ _ ?_); clear hJ hKC KC J) | ((with_reducible refine zH ?_ ?_); · rfl)
   refine zAe 0 rfl (by simp (maxSteps := 9999999) only [push_cast, seval, ↓reduceIte]) ?_
   simp (maxSteps := 9999999) only [push_cast, seval, ↓reduceIte, zAK, zi, fr3, fr2, fr1, fr0, zq, zn, hbm, hFC, hcS]
   refine zF ?_
   refine zd ?_
   simp (maxSteps := 9999999) only [push_cast, seval, ↓reduceIte, show Tryz.f215.results = #[(.tmp 4)] from rfl]
   exact ⟨rfl, zK _⟩
theorem zFT (f g : Bool) (xs ys : List (Int × Int)) (hb : xs.length ≤ 9223372036854775807) : Fn Tryz.prog 154 [.sl f 2 (za xs), .sl g 2 (za ys)] [] (.v (.bool (decide (xs = ys)))) [] := by
 refine Fn.of (fn := Tryz.f154) (by kernel_rfl) rfl (by kernel_rfl) ⟨[.sl f 2 (za xs), .sl g 2 (za ys), .v undef, .v undef, .v undef, .v undef, .v undef, .v undef, .v undef, .v undef, .v undef, .v undef, .v undef, .v undef, .v undef, .v undef, .v undef, .v undef, .v undef, .v undef, .v undef, .v undef, .v undef, .v undef, .v undef, .v undef], []⟩ rfl ?_
 by_cases hl : xs.length = ys.length
 ·have hl' : ((xs.length : Int) != (ys.length : Int)) = false := by simp [hl]
  repeat' first | (with_reducible first | refine zA ?_ | refine zB ?_ | refine zJ ?_ | refine zI ?_) | ((with_reducible refine zC fun KC J hJ hKC => ?_); simp (maxSteps := 9999999) only [push_cast, seval, ↓reduceIte, hl']) | ((with_reducible refine hJ _ _ ?_); clear hJ hKC KC J) | ((with_reducible refine zH ?_ ?_); · rfl)
  refine zAJ (γ := {i : Nat // i ≤ xs.length ∧ ∀ j, j < i → xs[j]? = ys[j]?}) (fun i => ⟨[.sl f 2 (za xs), .sl g 2 (za ys), .any, .any, .any, .any, .any, .any, .any, .any, .any, .any, .v (.int .i64 xs.length), .v (.int .i64 i.1), .any, .any, .any, .any, .any, .any, .any, .any, .any, .any, .any, .any], []⟩) (fun i => xs.length - i.1) ⟨0, by simp⟩ ⟨?_, Fq⟩ ?_
  ·exact Lq
  ·rintro ⟨i, hi, hn⟩
   by_cases hlt : (i : Int) < (xs.length : Int)
   ·have hx : xs[i]? = some xs[i] := List.getElem?_eq_getElem (by omega)
    have hy : ys[i]? = some ys[i] := List.getElem?_eq_getElem (by omega)
    obtain ⟨a, ha⟩ : ∃ a, xs[i] = a := ⟨_, rfl⟩
    obtain ⟨b, hb2⟩ : ∃ b, ys[i] = b := ⟨_, rfl⟩
    rw [ha] at hx
    rw [hb2] at hy
    by_cases he : a = b
    ·have he' : decide (a = b) = true := decide_eq_true he
     repeat' first | (with_reducible first | refine zA ?_ | refine zB ?_ | refine zP ?_ | refine zJ ?_ | refine zI ?_) | ((with_reducible refine And.intro ?_ ?_); · exact Sq) | ((first | with_reducible refine zC fun KC J hJ hKC => ?_ | with_reducible refine zY rfl fun KC J hJ hKC => ?_); simp (maxSteps := 9999999) only [push_cast, seval, ↓reduceIte, hlt, zBh hx, zBh hy, zHu, he', zp (i := i) (n := xs.length) (by omega) hb]) | ((first | with_reducible refine hJ _ _ ?_ | (with_reducible refine hJ _ _ ?_ ?_; · kernel_rfl)); clear hJ hKC KC J) | ((with_reducible refine zG ?_ ?_); · rfl) | ((with_reducible refine zH ?_ ?_); · rfl)
     refine ⟨⟨i + 1, by omega, fun j hj => ?_⟩, by simp only; omega, ?_, Fq⟩
     ·by_cases hji : j = i
      ·rw [hji, hx, hy, he]
      ·exact hn j (by omega)
     ·exact Lq
    ·have he' : decide (a = b) = false := decide_eq_false he
     repeat' first | (with_reducible first | refine zA ?_ | refine zB ?_ | refine zb ?_ | refine zAC ?_ | refine zF ?_ | refine zJ ?_ | refine zI ?_) | ((with_reducible refine And.intro ?_ ?_); · exact Sq) | ((first | with_reducible refine zC fun KC J hJ hKC => ?_ | with_reducible refine zY rfl fun KC J hJ hKC => ?_); simp (maxSteps := 9999999) only [push_cast, seval, ↓reduceIte, hlt, zBh hx, zBh hy, zHu, he']) | ((first | with_reducible refine hJ _ _ ?_ | (with_reducible refine hJ _ _ ?_ ?_; · kernel_rfl)); clear hJ hKC KC J) | ((with_reducible refine zG ?_ ?_); · rfl)
     refine zE ?_
     simp (maxSteps := 9999999) only [push_cast, seval, ↓reduceIte, show Tryz.f154.results = #[(.tmp 4)] from rfl]
     rw [decide_eq_false (fun h => he (by rw [h, hy] at hx; exact (Option.some.inj hx).symm))]
     exact zK _
   ·skip
    repeat' first | (with_reducible first | refine zA ?_ | refine zB ?_ | refine zm ?_ | refine zl ?_ | refine zF ?_ | refine zZ ?_) | ((with_reducible refine zC fun KC J hJ hKC => ?_); simp (maxSteps := 9999999) only [push_cast, seval, ↓reduceIte, hlt]) | ((with_reducible refine hJ _ _ ?_); clear hJ hKC KC J) | ((with_reducible refine zH ?_ ?_); · rfl)
    refine zE ?_
    simp (maxSteps := 9999999) only [push_cast, seval, ↓reduceIte, show Tryz.f154.results = #[(.tmp 4)] from rfl]
    rw [decide_eq_true (zEQ hl fun j hj => hn j (by omega))]
    exact zK _
 ·have hl' : ((xs.length : Int) != (ys.length : Int)) = true := by simp; omega
  repeat' first | (with_reducible first | refine zA ?_ | refine zB ?_ | refine zb ?_ | refine zF ?_) | ((with_reducible refine zC fun KC J hJ hKC => ?_); simp (maxSteps := 9999999) only [push_cast, seval, ↓reduceIte, hl']) | ((with_reducible refine hJ _ _ ?_); clear hJ hKC KC J) | ((with_reducible refine zG ?_ ?_); · rfl)
  refine zE ?_
  simp (maxSteps := 9999999) only [push_cast, seval, ↓reduceIte, show Tryz.f154.results = #[(.tmp 4)] from rfl]
  rw [decide_eq_false (fun h => hl (by rw [h]))]
  exact zK _
def zEN (us : List Nat) (o : Nat) (x : Int × Int) : Bool := fl us x.2.toNat o
theorem zRM (f g : Bool) (ns : List ByteArray) (us : List Nat) (o : Nat) (x : Int × Int) (hs : Szs ns) (hu : U32 us) (hc : zAA ns us = 0) (ho : o < us.length) (hx : zx us.length x.2 = false) :
  Fn Tryz.prog 214 [.agg [.v (.int .i64 x.1), .v (.int .i64 x.2)], .fad [.sl f 1 (zS ns), .sl g 1 (zQ us), .v (.int .i64 (o : Int))]] [] (.v (.bool (!zEN us o x))) [] := by
 obtain ⟨v, l⟩ := x
 obtain ⟨a, ha, hl⟩ := zBU hx
 simp only at ha
 subst ha
 have h5 := zBO f g ns us a o hs hu hc hl ho
 have hk : zEN us o (v, (a : Int)) = fl us a o := by rw [zEN, Int.toNat_natCast]
 rw [hk]
 refine Fn.of (fn := Tryz.f214) (by kernel_rfl) rfl (by kernel_rfl) ⟨[.agg [.v (.int .i64 v), .v (.int .i64 (a : Int))], .fad [.sl f 1 (zS ns), .sl g 1 (zQ us), .v (.int .i64 (o : Int))], .v undef, .v undef, .v undef, .v undef, .v undef, .v undef, .v undef], []⟩ rfl ?_
 repeat' first | (with_reducible first | refine zA ?_ | refine zB ?_ | refine zF ?_) | ((first | with_reducible refine zC fun KC J hJ hKC => ?_ | (refine' hKC _ _ _ _ _ (zD (zBO _ _ _ _ _ _ ?_ ?_ ?_ ?_ ?_) rfl rfl rfl ?_ ?_); (rotate_left 11); (· exact Lq); (rotate_left 1); (iterate 5 (· exact Hq)))); simp (maxSteps := 9999999) only [push_cast, seval, ↓reduceIte]) | ((with_reducible refine hJ _ _ ?_); clear hJ hKC KC J)
 refine zE ?_
 simp (maxSteps := 9999999) only [push_cast, seval, ↓reduceIte, show Tryz.f214.results = #[(.tmp 3)] from rfl]
 exact zK _
theorem zEV (f g fa fb : Bool) (ns : List ByteArray) (us : List Nat) (o : Nat) (a b : List (Int × Int)) (hs : Szs ns) (hu : U32 us) (hc : zAA ns us = 0) (ho : o < us.length) (hal : a.length ≤ 1000) (hbl : b.length ≤ 1000) (ha : ∀ x ∈ a, zx us.length x.2 = false) (hb : ∀ x ∈ b, zx us.length x.2 = false) :
  Fn Tryz.prog 111 [.agg [.sl f 1 (zS ns), .sl g 1 (zQ us), .v (.int .i64 (o : Int))], .sl fa 2 (za a), .sl fb 2 (za b)] [] (.v (.bool (decide (a.filter (zEN us o) = b.filter (zEN us o))))) [] := by
 have hdA : ∀ l : List (Int × Int), l.length ≤ 1000 → (∀ x ∈ l, zx us.length x.2 = false) → ∀ n, l.length = n → Fn (Tryz.prog) 215 [.ref 0 0 n, .fn 214 [.fad [.sl f 1 (zS ns), .sl g 1 (zQ us), .v (.int .i64 (o : Int))]]] [.ent ⟨0, some 2, 34, zk l, .cells⟩] (.sl false 2 (za (l.filter (zEN us o)))) [.dead] := fun l hl hx n hn =>
  zIO l n hn 214 [.fad [.sl f 1 (zS ns), .sl g 1 (zQ us), .v (.int .i64 (o : Int))]] (zEN us o) (by omega) rfl (fun x hm => zRM f g ns us o x hs hu hc ho (hx x hm))
 have hd0 := zHm 214 [.fad [.sl f 1 (zS ns), .sl g 1 (zQ us), .v (.int .i64 (o : Int))]] rfl
 have hda := hdA a hal ha _ rfl
 have hdb := hdA b hbl hb _ rfl
 obtain ⟨A, hA⟩ : ∃ A, a.filter (zEN us o) = A := ⟨_, rfl⟩
 obtain ⟨B, hB⟩ : ∃ B, b.filter (zEN us o) = B := ⟨_, rfl⟩
 have hAl : A.length ≤ 1000 := by rw [← hA]; exact Nat.le_trans (List.length_filter_le _ _) hal
 rw [hA] at hda
 rw [hB] at hdb
 rw [hA, hB]
 have hca := zKF fa a
 have hcb := zKF fb b
 have hc0a := zIK fa
 have hc0b := zIK fb
 refine Fn.of (fn := Tryz.f111) (by kernel_rfl) rfl (by kernel_rfl) ⟨[.agg [.sl f 1 (zS ns), .sl g 1 (zQ us), .v (.int .i64 (o : Int))], .sl fa 2 (za a), .sl fb 2 (za b), .v undef, .v undef, .v undef, .v undef, .v undef, .v undef, .v undef, .v undef, .v undef, .v undef, .v undef, .v undef, .v undef, .v undef, .v undef], []⟩ rfl ?_
 rcases Nat.eq_zero_or_pos a.length with h0a | h0a
 ·have ea : a = [] := List.eq_nil_of_length_eq_zero h0a
  subst ea
  have eA : A = [] := by rw [← hA]; rfl
  subst eA
  rcases Nat.eq_zero_or_pos b.length with h0b | h0b
  ·have eb : b = [] := List.eq_nil_of_length_eq_zero h0b
   subst eb
   have eB : B = [] := by rw [← hB]; rfl
   subst eB
   have heq := zFT true true [] [] (by simp)
   repeat' first | (refine zU 1 0 rfl (by (simp (maxSteps := 9999999) only [push_cast, seval, ↓reduceIte]) <;> rfl) ?_; simp (maxSteps := 9999999) only [push_cast, seval, ↓reduceIte, zAK, zi, fr3, fr2, fr1, fr0, zq, zn, zr, Bool.and_self, zX, zN, zL, pick, mOf, idx, zV]) | (with_reducible first | refine zA ?_ | refine zB ?_ | refine zF ?_) | ((first | with_reducible refine zC fun KC J hJ hKC => ?_ | (refine hKC _ _ _ _ _ (zD (hc0a) rfl rfl rfl ?_ ?_); (· exact Lq)) | (refine hKC _ _ _ _ _ (zD (hc0b) rfl rfl rfl ?_ ?_); (· exact Lq)) | (refine hKC _ _ _ _ _ (zD (hd0) rfl rfl rfl ?_ ?_); (· exact Lq)) | (refine hKC _ _ _ _ _ (zD (heq) rfl rfl rfl ?_ ?_); (· exact Lq))); simp (maxSteps := 9999999) only [push_cast, seval, ↓reduceIte, zr, Bool.and_self, zX, zN, zL, pick, mOf, idx, zV]) | ((with_reducible refine hJ _ _ ?_); clear hJ hKC KC J)
   refine zE ?_
   simp (maxSteps := 9999999) only [push_cast, seval, ↓reduceIte, show Tryz.f111.results = #[(.tmp 6)] from rfl]
   exact zK _
  ·have heq := zFT true false [] B (by simp)
   have hcb := hcb h0b (by omega)
   repeat' first | (refine zU 1 0 rfl (by (simp (maxSteps := 9999999) only [push_cast, seval, ↓reduceIte]) <;> rfl) ?_; simp (maxSteps := 9999999) only [push_cast, seval, ↓reduceIte, zAK, zi, fr3, fr2, fr1, fr0, zq, zn, zr, Bool.and_self, zX, zN, zL, pick, mOf, idx, zV]) | (with_reducible first | refine zA ?_ | refine zB ?_ | refine zF ?_) | ((first | with_reducible refine zC fun KC J hJ hKC => ?_ | (refine hKC _ _ _ _ _ (zBb [] hcb rfl rfl rfl (by simp) (fun _ h => by cases h) rfl rfl rfl (zDg (zK _) zCY) ?_)) | (refine hKC _ _ _ _ _ (zT [3] hdb rfl rfl rfl (by decide) (by simp) rfl (by simp only [push_cast, pick, mOf, idx, zL, zV]) (by simp only [push_cast, mOf, idx]; exact ⟨zK _, zK _, trivial⟩) ?_)) | (refine hKC _ _ _ _ _ (zD (hc0a) rfl rfl rfl ?_ ?_); (· exact Lq)) | (refine hKC _ _ _ _ _ (zD (hd0) rfl rfl rfl ?_ ?_); (· exact Lq)) | (refine hKC _ _ _ _ _ (zD (heq) rfl rfl rfl ?_ ?_); (· exact Lq))); simp (maxSteps := 9999999) only [push_cast, seval, ↓reduceIte, zr, Bool.and_self, zX, zN, zL, pick, mOf, idx, zV]) | ((with_reducible refine hJ _ _ ?_); clear hJ hKC KC J)
   refine zE ?_
   simp (maxSteps := 9999999) only [push_cast, seval, ↓reduceIte, show Tryz.f111.results = #[(.tmp 6)] from rfl]
   exact zK _
 ·have hca := hca h0a (by omega)
  rcases Nat.eq_zero_or_pos b.length with h0b | h0b
  ·have eb : b = [] := List.eq_nil_of_length_eq_zero h0b
   subst eb
   have eB : B = [] := by rw [← hB]; rfl
   subst eB
   have heq := zFT false true A [] (by omega)
   repeat' first | (refine zU 1 0 rfl (by (simp (maxSteps := 9999999) only [push_cast, seval, ↓reduceIte]) <;> rfl) ?_; simp (maxSteps := 9999999) only [push_cast, seval, ↓reduceIte, zAK, zi, fr3, fr2, fr1, fr0, zq, zn, zr, Bool.and_self, zX, zN, zL, pick, mOf, idx, zV]) | (with_reducible first | refine zA ?_ | refine zB ?_ | refine zF ?_) | ((first | with_reducible refine zC fun KC J hJ hKC => ?_ | (refine hKC _ _ _ _ _ (zBb [] hca rfl rfl rfl (by simp) (fun _ h => by cases h) rfl rfl rfl (zDg (zK _) zCY) ?_)) | (refine hKC _ _ _ _ _ (zT [1] hda rfl rfl rfl (by decide) (by simp) rfl (by simp only [push_cast, pick, mOf, idx, zL, zV]) (by simp only [push_cast, mOf, idx]; exact ⟨zK _, zK _, trivial⟩) ?_)) | (refine hKC _ _ _ _ _ (zD (hc0b) rfl rfl rfl ?_ ?_); (· exact Lq)) | (refine hKC _ _ _ _ _ (zD (hd0) rfl rfl rfl ?_ ?_); (· exact Lq)) | (refine hKC _ _ _ _ _ (zD (heq) rfl rfl rfl ?_ ?_); (· exact Lq))); simp (maxSteps := 9999999) only [push_cast, seval, ↓reduceIte, zr, Bool.and_self, zX, zN, zL, pick, mOf, idx, zV]) | ((with_reducible refine hJ _ _ ?_); clear hJ hKC KC J)
   refine zE ?_
   simp (maxSteps := 9999999) only [push_cast, seval, ↓reduceIte, show Tryz.f111.results = #[(.tmp 6)] from rfl]
   exact zK _
  ·have hcb := hcb h0b (by omega)
   repeat' first | (refine zU 1 0 rfl (by (simp (maxSteps := 9999999) only [push_cast, seval, ↓reduceIte]) <;> rfl) ?_; simp (maxSteps := 9999999) only [push_cast, seval, ↓reduceIte, zAK, zi, fr3, fr2, fr1, fr0, zq, zn, zr, Bool.and_self, zX, zN, zL, pick, mOf, idx, zV]) | (with_reducible first | refine zA ?_ | refine zB ?_ | refine zF ?_) | ((first | with_reducible refine zC fun KC J hJ hKC => ?_ | (refine' hKC _ _ _ _ _ (zD (zFT _ _ _ _ ?_) rfl rfl rfl ?_ ?_); (rotate_left 5); (· exact Lq); (rotate_left 1); (iterate 1 (· exact Hq))) | (refine hKC _ _ _ _ _ (zBb [] hca rfl rfl rfl (by simp) (fun _ h => by cases h) rfl rfl rfl (zDg (zK _) zCY) ?_)) | (refine hKC _ _ _ _ _ (zBb [] hcb rfl rfl rfl (by simp) (fun _ h => by cases h) rfl rfl rfl (zDg (zK _) zCY) ?_)) | (refine hKC _ _ _ _ _ (zT [1] hda rfl rfl rfl (by decide) (by simp) rfl (by simp only [push_cast, pick, mOf, idx, zL, zV]) (by simp only [push_cast, mOf, idx]; exact ⟨zK _, zK _, trivial⟩) ?_)) | (refine hKC _ _ _ _ _ (zT [3] hdb rfl rfl rfl (by decide) (by simp) rfl (by simp only [push_cast, pick, mOf, idx, zL, zV]) (by simp only [push_cast, mOf, idx]; exact ⟨zK _, zK _, trivial⟩) ?_))); simp (maxSteps := 9999999) only [push_cast, seval, ↓reduceIte, zr, Bool.and_self, zX, zN, zL, pick, mOf, idx, zV]) | ((with_reducible refine hJ _ _ ?_); clear hJ hKC KC J)
   refine zE ?_
   simp (maxSteps := 9999999) only [push_cast, seval, ↓reduceIte, show Tryz.f111.results = #[(.tmp 6)] from rfl]
   exact zK _
def zOs (x y : Int × Int) : Bool := true
def zOR (x y : Int × Int) : Bool := (x.1 == y.1)
theorem zQl (x y : Int × Int) : Fn Tryz.prog 202 [.agg [.v (.int .i64 x.1), .v (.int .i64 x.2)], .agg [.v (.int .i64 y.1), .v (.int .i64 y.2)]] [] (.v (.bool (zOs x y))) [] := by
 refine Fn.of (fn := Tryz.f202) (by kernel_rfl) rfl (by kernel_rfl) ⟨[.agg [.v (.int .i64 x.1), .v (.int .i64 x.2)], .agg [.v (.int .i64 y.1), .v (.int .i64 y.2)], .v undef, .v undef, .v undef], []⟩ rfl ?_
 repeat' first | (with_reducible first | refine zA ?_ | refine zB ?_ | refine zF ?_) | ((with_reducible refine zC fun KC J hJ hKC => ?_); simp (maxSteps := 9999999) only [push_cast, seval, ↓reduceIte]) | ((with_reducible refine hJ _ _ ?_); clear hJ hKC KC J)
 refine zE ?_
 simp (maxSteps := 9999999) only [push_cast, seval, ↓reduceIte, show Tryz.f202.results = #[(.tmp 4)] from rfl]
 exact zK _
theorem zRm (x y : Int × Int) : Fn Tryz.prog 204 [.agg [.v (.int .i64 x.1), .v (.int .i64 x.2)], .agg [.v (.int .i64 y.1), .v (.int .i64 y.2)]] [] (.v (.bool (zOR x y))) [] := by
 refine Fn.of (fn := Tryz.f204) (by kernel_rfl) rfl (by kernel_rfl) ⟨[.agg [.v (.int .i64 x.1), .v (.int .i64 x.2)], .agg [.v (.int .i64 y.1), .v (.int .i64 y.2)], .v undef, .v undef, .v undef, .v undef, .v undef, .v undef, .v undef, .v undef], []⟩ rfl ?_
 repeat' first | (with_reducible first | refine zA ?_ | refine zB ?_ | refine zF ?_) | ((with_reducible refine zC fun KC J hJ hKC => ?_); simp (maxSteps := 9999999) only [push_cast, seval, ↓reduceIte]) | ((with_reducible refine hJ _ _ ?_); clear hJ hKC KC J)
 refine zE ?_
 simp (maxSteps := 9999999) only [push_cast, seval, ↓reduceIte, show Tryz.f204.results = #[(.tmp 4)] from rfl]
 exact zK _
def alA (us : List Nat) (o : Nat) (x y : Int × Int) : Bool := zOs x y && (x.2 == y.2 && (!fl us x.2.toNat o || zOR x y))
theorem zNk (f g : Bool) (ns : List ByteArray) (us : List Nat) (o a : Nat) (x y : Int × Int) (hs : Szs ns) (hu : U32 us) (hc : zAA ns us = 0) (hx : x.2 = (a : Int)) (ha : a < us.length) (ho : o < us.length) :
  Fn Tryz.prog 213 [.agg [.v (.int .i64 x.1), .v (.int .i64 x.2)], .agg [.v (.int .i64 y.1), .v (.int .i64 y.2)], .fad zEW, .fad [.sl f 1 (zS ns), .sl g 1 (zQ us), .v (.int .i64 (o : Int))]] [] (.v (.bool (alA us o x y))) [] := by
 have h1 := zQl x y
 have h2 := zID x
 have h3 := zID y
 have h4 := zRm x y
 have h5 := zBO f g ns us a o hs hu hc ha ho
 rw [hx] at h1 h2 h4
 obtain ⟨p, hp⟩ : ∃ p, zOs x y = p := ⟨_, rfl⟩
 obtain ⟨q, hq⟩ : ∃ q, ((a : Int) == y.2) = q := ⟨_, rfl⟩
 obtain ⟨z, hz⟩ : ∃ z, fl us a o = z := ⟨_, rfl⟩
 have hal : alA us o x y = (p && (q && (!z || zOR x y))) := by rw [alA, hp, hx, hq, Int.toNat_natCast, hz]
 rw [hal]
 rw [hp] at h1
 rw [hz] at h5
 rw [hx]
 refine Fn.of (fn := Tryz.f213) (by kernel_rfl) rfl (by kernel_rfl) ⟨[.agg [.v (.int .i64 x.1), .v (.int .i64 (a : Int))], .agg [.v (.int .i64 y.1), .v (.int .i64 y.2)], .fad zEW, .fad [.sl f 1 (zS ns), .sl g 1 (zQ us), .v (.int .i64 (o : Int))], .v undef, .v undef, .v undef, .v undef, .v undef, .v undef, .v undef, .v undef, .v undef, .v undef, .v undef, .v undef, .v undef, .v undef, .v undef, .v undef, .v undef, .v undef, .v undef, .v undef, .v undef, .v undef, .v undef, .v undef, .v undef, .v undef, .v undef, .v undef, .v undef, .v undef, .v undef, .v undef, .v undef, .v undef, .v undef], []⟩ rfl ?_
 rcases p with _ | _
 rotate_left
 rcases q with _ | _
 rotate_left
 rcases z with _ | _
 all_goals
  repeat' first | (with_reducible first | refine zA ?_ | refine zB ?_ | refine zF ?_) | ((first | with_reducible refine zC fun KC J hJ hKC => ?_ | with_reducible refine zY rfl fun KC J hJ hKC => ?_ | (refine' hKC _ _ _ _ _ (zD (zBO _ _ _ _ _ _ ?_ ?_ ?_ ?_ ?_) rfl rfl rfl ?_ ?_); (rotate_left 11); (· exact Lq); (rotate_left 1); (iterate 5 (· exact Hq))) | (refine hKC _ _ _ _ _ (zD (h1) rfl rfl rfl ?_ ?_); (· exact Lq)) | (refine hKC _ _ _ _ _ (zD (h2) rfl rfl rfl ?_ ?_); (· exact Lq)) | (refine hKC _ _ _ _ _ (zD (h3) rfl rfl rfl ?_ ?_); (· exact Lq)) | (refine hKC _ _ _ _ _ (zD (h4) rfl rfl rfl ?_ ?_); (· exact Lq))); simp (maxSteps := 9999999) only [push_cast, seval, ↓reduceIte, hq, hz, undef]) | ((first | with_reducible refine hJ _ _ ?_ | (with_reducible refine hJ _ _ ?_ ?_; · kernel_rfl)); clear hJ hKC KC J)
  refine zE ?_
  simp (maxSteps := 9999999) only [push_cast, seval, ↓reduceIte, show Tryz.f213.results = #[(.tmp 6)] from rfl]
  exact zK _
def zCU (p : Int × Int → Int × Int → Bool) : List (Int × Int) → List (Int × Int) → Bool
 | [], [] => true
 | x :: xs, y :: ys => p x y && zCU p xs ys
 | _, _ => false
theorem zJX {p : Int × Int → Int × Int → Bool} : ∀ {xs ys : List (Int × Int)}, ¬ xs.length = ys.length → zCU p xs ys = false
 | [], [], h => absurd rfl h
 | [], _ :: _, _ => rfl
 | _ :: _, [], _ => rfl
 | _ :: xs, _ :: ys, h => by rw [zCU, zJX (fun e => h (by simp [e]))]; simp
theorem zJU {p : Int × Int → Int × Int → Bool} : ∀ {xs ys : List (Int × Int)}, xs.length = ys.length → (∀ (j : Nat) (x y : Int × Int), xs[j]? = some x → ys[j]? = some y → p x y = true) → zCU p xs ys = true
 | [], [], _, _ => rfl
 | [], _ :: _, h, _ => by simp at h
 | _ :: _, [], h, _ => by simp at h
 | x :: xs, y :: ys, h, hp => by
  rw [zCU, hp 0 x y rfl rfl, zJU (by simpa using h) (fun j a b ha hb => hp (j + 1) a b (by simpa using ha) (by simpa using hb))]; rfl
theorem zKj {p : Int × Int → Int × Int → Bool} : ∀ {xs ys : List (Int × Int)} {j : Nat} {x y : Int × Int}, xs[j]? = some x → ys[j]? = some y → p x y = false → zCU p xs ys = false
 | [], _, j, x, y, h, _, _ => by simp at h
 | _ :: _, [], j, x, y, _, h, _ => by simp at h
 | a :: xs, b :: ys, 0, x, y, h1, h2, h3 => by simp at h1 h2; rw [zCU, h1, h2, h3]; rfl
 | a :: xs, b :: ys, j + 1, x, y, h1, h2, h3 => by rw [zCU, zKj (by simpa using h1) (by simpa using h2) h3]; simp
theorem zJk (f g : Bool) (xs ys : List (Int × Int)) (cf : Nat) (caps : List D) (p : Int × Int → Int × Int → Bool) (hb : xs.length ≤ 9223372036854775807) (hc : zr caps = true)
  (hp : ∀ x ∈ xs, ∀ y, Fn Tryz.prog cf (.agg [.v (.int .i64 x.1), .v (.int .i64 x.2)] :: .agg [.v (.int .i64 y.1), .v (.int .i64 y.2)] :: caps) [] (.v (.bool (p x y))) []) : Fn Tryz.prog 212 [.sl f 2 (za xs), .sl g 2 (za ys), .fn cf caps] [] (.v (.bool (zCU p xs ys))) [] := by
 refine Fn.of (fn := Tryz.f212) (by kernel_rfl) rfl (by kernel_rfl) ⟨[.sl f 2 (za xs), .sl g 2 (za ys), .fn cf caps, .v undef, .v undef, .v undef, .v undef, .v undef, .v undef, .v undef, .v undef, .v undef, .v undef, .v undef, .v undef, .v undef, .v undef, .v undef, .v undef, .v undef, .v undef, .v undef, .v undef, .v undef, .v undef, .v undef, .v undef, .v undef, .v undef, .v undef, .v undef, .v undef], []⟩ rfl ?_
 by_cases hl : xs.length = ys.length
 ·have hl' : ((xs.length : Int) != (ys.length : Int)) = false := by simp [hl]
  repeat' first | (with_reducible first | refine zA ?_ | refine zB ?_ | refine zJ ?_ | refine zI ?_) | ((with_reducible refine zC fun KC J hJ hKC => ?_); simp (maxSteps := 9999999) only [push_cast, seval, ↓reduceIte, hl']) | ((with_reducible refine hJ _ _ ?_); clear hJ hKC KC J) | ((with_reducible refine zH ?_ ?_); · rfl)
  refine zw 0 (γ := {i : Nat // i ≤ xs.length ∧ ∀ (j : Nat) (x y : Int × Int), j < i → xs[j]? = some x → ys[j]? = some y → p x y = true}) (fun i => ⟨[.sl f 2 (za xs), .sl g 2 (za ys), .fn cf caps, .any, .any, .any, .any, .any, .any, .any, .any, .any, .any, .any, .any, .sl f 2 (za xs), .v (.int .i64 xs.length), .v (.int .i64 i.1), .any, .any, .any, .any, .any, .any, .any, .any, .any, .any, .any, .any, .any, .any], []⟩) (fun i => xs.length - i.1) ⟨0, by simp⟩ (fun i => rfl) (fun i => rfl) (fun i => ?_) ⟨?_, Fq⟩ ?_
  ·simp only [List.map_cons, List.map_nil, show ren (mOf (List.range 0)) (.fn cf caps) = .fn cf caps from by show D.fn cf (caps.map _) = _; rw [zDH (fun d hd => zEJ hd) hc]]
   rfl
  ·exact Lq
  ·rintro ⟨i, hi, hn⟩
   by_cases hlt : (i : Int) < (xs.length : Int)
   ·have hx : xs[i]? = some xs[i] := List.getElem?_eq_getElem (by omega)
    have hy : ys[i]? = some ys[i] := List.getElem?_eq_getElem (by omega)
    have hfn := hp xs[i] (List.getElem_mem (by omega)) ys[i]
    obtain ⟨a, ha⟩ : ∃ a, xs[i] = a := ⟨_, rfl⟩
    obtain ⟨b, hb2⟩ : ∃ b, ys[i] = b := ⟨_, rfl⟩
    rw [ha] at hx
    rw [hb2] at hy
    rw [ha, hb2] at hfn
    cases hpv : p a b with
    | true =>
     rw [hpv] at hfn
     repeat' first | (with_reducible first | refine zA ?_ | refine zB ?_ | refine zP ?_ | refine zJ ?_ | refine zI ?_) | ((with_reducible refine And.intro ?_ ?_); · exact Sq) | ((first | with_reducible refine zC fun KC J hJ hKC => ?_ | (refine hKC _ _ _ _ _ (zD (hfn) rfl rfl rfl ?_ ?_); (· exact Lq))); simp (maxSteps := 9999999) only [push_cast, seval, ↓reduceIte, hlt, zBh hx, zBh hy, zp (i := i) (n := xs.length) (by omega) hb]) | ((with_reducible refine hJ _ _ ?_); clear hJ hKC KC J) | ((with_reducible refine zG ?_ ?_); · rfl) | ((with_reducible refine zH ?_ ?_); · rfl)
     refine ⟨⟨i + 1, by omega, fun j x y hj h1 h2 => ?_⟩, by simp only; omega, ?_, ⟨_, rfl⟩⟩
     ·by_cases hji : j = i
      ·rw [hji] at h1 h2
       rw [hx] at h1; rw [hy] at h2
       cases h1; cases h2; exact hpv
      ·exact hn j x y (by omega) h1 h2
     ·exact Lq
    | false =>
     rw [hpv] at hfn
     repeat' first | (with_reducible first | refine zA ?_ | refine zB ?_ | refine zb ?_ | refine zAC ?_ | refine zF ?_ | refine zJ ?_ | refine zI ?_) | ((with_reducible refine And.intro ?_ ?_); · exact Sq) | ((first | with_reducible refine zC fun KC J hJ hKC => ?_ | (refine hKC _ _ _ _ _ (zD (hfn) rfl rfl rfl ?_ ?_); (· exact Lq))); simp (maxSteps := 9999999) only [push_cast, seval, ↓reduceIte, hlt, zBh hx, zBh hy]) | ((with_reducible refine hJ _ _ ?_); clear hJ hKC KC J) | ((with_reducible refine zG ?_ ?_); · rfl)
     refine zE ?_
     simp (maxSteps := 9999999) only [push_cast, seval, ↓reduceIte, show Tryz.f212.results = #[(.tmp 6)] from rfl]
     rw [zKj hx hy hpv]
     exact zK _
   ·skip
    repeat' first | (with_reducible first | refine zA ?_ | refine zB ?_ | refine zm ?_ | refine zl ?_ | refine zF ?_ | refine zZ ?_) | ((with_reducible refine zC fun KC J hJ hKC => ?_); simp (maxSteps := 9999999) only [push_cast, seval, ↓reduceIte, hlt]) | ((with_reducible refine hJ _ _ ?_); clear hJ hKC KC J) | ((with_reducible refine zH ?_ ?_); · rfl)
    refine zE ?_
    simp (maxSteps := 9999999) only [push_cast, seval, ↓reduceIte, show Tryz.f212.results = #[(.tmp 6)] from rfl]
    rw [zJU hl (fun j x y h1 h2 => hn j x y (by have := (List.getElem?_eq_some_iff.1 h1).1; omega) h1 h2)]
    exact zK _
 ·have hl' : ((xs.length : Int) != (ys.length : Int)) = true := by simp; omega
  repeat' first | (with_reducible first | refine zA ?_ | refine zB ?_ | refine zb ?_ | refine zF ?_) | ((with_reducible refine zC fun KC J hJ hKC => ?_); simp (maxSteps := 9999999) only [push_cast, seval, ↓reduceIte, hl']) | ((with_reducible refine hJ _ _ ?_); clear hJ hKC KC J) | ((with_reducible refine zG ?_ ?_); · rfl)
  refine zE ?_
  simp (maxSteps := 9999999) only [push_cast, seval, ↓reduceIte, show Tryz.f212.results = #[(.tmp 6)] from rfl]
  rw [zJX hl]
  exact zK _
theorem zCN (f g fa fb : Bool) (ns : List ByteArray) (us : List Nat) (o : Nat) (xs ys : List (Int × Int)) (hs : Szs ns) (hu : U32 us) (hc : zAA ns us = 0) (ho : o < us.length) (hb : xs.length ≤ 1000) (hx : ∀ x ∈ xs, zx us.length x.2 = false) :
  Fn Tryz.prog 110 [.agg [.sl f 1 (zS ns), .sl g 1 (zQ us), .v (.int .i64 (o : Int))], .agg zEW, .sl fa 2 (za xs), .sl fb 2 (za ys)] [] (.v (.bool (zCU (alA us o) xs ys))) [] := by
 have hcf := zJk fa fb xs ys 213 [.fad zEW, .fad [.sl f 1 (zS ns), .sl g 1 (zQ us), .v (.int .i64 (o : Int))]] (alA us o) (by omega) rfl (fun x hm y => by
  obtain ⟨a, ha, hl⟩ := zBU (hx x hm)
  exact zNk f g ns us o a x y hs hu hc ha hl ho)
 refine Fn.of (fn := Tryz.f110) (by kernel_rfl) rfl (by kernel_rfl) ⟨[.agg [.sl f 1 (zS ns), .sl g 1 (zQ us), .v (.int .i64 (o : Int))], .agg zEW, .sl fa 2 (za xs), .sl fb 2 (za ys), .v undef, .v undef, .v undef, .v undef, .v undef, .v undef, .v undef, .v undef, .v undef], []⟩ rfl ?_
 repeat' first | (refine zU 1 0 rfl (by (simp (maxSteps := 9999999) only [push_cast, seval, ↓reduceIte]) <;> rfl) ?_; simp (maxSteps := 9999999) only [push_cast, seval, ↓reduceIte, zAK, zi, fr3, fr2, fr1, fr0, zq, zn, zr, Bool.and_self]) | (refine zU 1 1 rfl (by (simp (maxSteps := 9999999) only [push_cast, seval, ↓reduceIte]) <;> rfl) ?_; simp (maxSteps := 9999999) only [push_cast, seval, ↓reduceIte, zAK, zi, fr3, fr2, fr1, fr0, zq, zn, zr, Bool.and_self]) | (with_reducible first | refine zA ?_ | refine zB ?_ | refine zF ?_) | ((first | with_reducible refine zC fun KC J hJ hKC => ?_ | (refine hKC _ _ _ _ _ (zD (hcf) rfl rfl rfl ?_ ?_); (· exact Lq))); simp (maxSteps := 9999999) only [push_cast, seval, ↓reduceIte, zr, Bool.and_self]) | ((with_reducible refine hJ _ _ ?_); clear hJ hKC KC J)
 refine zE ?_
 simp (maxSteps := 9999999) only [push_cast, seval, ↓reduceIte, show Tryz.f110.results = #[(.tmp 8)] from rfl]
 exact zK _
def zMN (x y : Int × Int × Int) : Bool := (x.1 == y.1 && (x.1 == 1 || x.2.1 == y.2.1))
def zOS (x y : Int × Int × Int) : Bool := (x.2.1 == y.2.1)
theorem zQm (x y : Int × Int × Int) : Fn Tryz.prog 199 [.agg [.v (.int .i64 x.1), .v (.int .i64 x.2.1), .v (.int .i64 x.2.2)], .agg [.v (.int .i64 y.1), .v (.int .i64 y.2.1), .v (.int .i64 y.2.2)]] [] (.v (.bool (zMN x y))) [] := by
 refine Fn.of (fn := Tryz.f199) (by kernel_rfl) rfl (by kernel_rfl) ⟨[.agg [.v (.int .i64 x.1), .v (.int .i64 x.2.1), .v (.int .i64 x.2.2)], .agg [.v (.int .i64 y.1), .v (.int .i64 y.2.1), .v (.int .i64 y.2.2)], .v undef, .v undef, .v undef, .v undef, .v undef, .v undef, .v undef, .v undef, .v undef, .v undef, .v undef, .v undef, .v undef, .v undef, .v undef, .v undef, .v undef, .v undef, .v undef, .v undef], []⟩ rfl ?_
 obtain ⟨p, hp⟩ : ∃ p, (x.1 == y.1) = p := ⟨_, rfl⟩
 obtain ⟨q, hq⟩ : ∃ q, (x.1 == 1) = q := ⟨_, rfl⟩
 rw [zMN, hp, hq]
 rcases p with _ | _
 rotate_left
 rcases q with _ | _
 all_goals
  repeat' first | (with_reducible first | refine zA ?_ | refine zB ?_ | refine zF ?_) | ((with_reducible refine zC fun KC J hJ hKC => ?_); simp (maxSteps := 9999999) only [push_cast, seval, ↓reduceIte, hp, hq, undef]) | ((with_reducible refine hJ _ _ ?_); clear hJ hKC KC J)
  refine zE ?_
  simp (maxSteps := 9999999) only [push_cast, seval, ↓reduceIte, show Tryz.f199.results = #[(.tmp 4)] from rfl]
  exact zK _
theorem zRa (x y : Int × Int × Int) : Fn Tryz.prog 201 [.agg [.v (.int .i64 x.1), .v (.int .i64 x.2.1), .v (.int .i64 x.2.2)], .agg [.v (.int .i64 y.1), .v (.int .i64 y.2.1), .v (.int .i64 y.2.2)]] [] (.v (.bool (zOS x y))) [] := by
 refine Fn.of (fn := Tryz.f201) (by kernel_rfl) rfl (by kernel_rfl) ⟨[.agg [.v (.int .i64 x.1), .v (.int .i64 x.2.1), .v (.int .i64 x.2.2)], .agg [.v (.int .i64 y.1), .v (.int .i64 y.2.1), .v (.int .i64 y.2.2)], .v undef, .v undef, .v undef, .v undef, .v undef, .v undef, .v undef, .v undef], []⟩ rfl ?_
 repeat' first | (with_reducible first | refine zA ?_ | refine zB ?_ | refine zF ?_) | ((with_reducible refine zC fun KC J hJ hKC => ?_); simp (maxSteps := 9999999) only [push_cast, seval, ↓reduceIte]) | ((with_reducible refine hJ _ _ ?_); clear hJ hKC KC J)
 refine zE ?_
 simp (maxSteps := 9999999) only [push_cast, seval, ↓reduceIte, show Tryz.f201.results = #[(.tmp 4)] from rfl]
 exact zK _
def alI (us : List Nat) (o : Nat) (x y : Int × Int × Int) : Bool := zMN x y && (x.2.2 == y.2.2 && (!fl us x.2.2.toNat o || zOS x y))
theorem zNp (f g : Bool) (ns : List ByteArray) (us : List Nat) (o a : Nat) (x y : Int × Int × Int) (hs : Szs ns) (hu : U32 us) (hc : zAA ns us = 0) (hx : x.2.2 = (a : Int)) (ha : a < us.length) (ho : o < us.length) :
  Fn Tryz.prog 211 [.agg [.v (.int .i64 x.1), .v (.int .i64 x.2.1), .v (.int .i64 x.2.2)], .agg [.v (.int .i64 y.1), .v (.int .i64 y.2.1), .v (.int .i64 y.2.2)], .fad zEO, .fad [.sl f 1 (zS ns), .sl g 1 (zQ us), .v (.int .i64 (o : Int))]] [] (.v (.bool (alI us o x y))) [] := by
 have h1 := zQm x y
 have h2 := zHv x
 have h3 := zHv y
 have h4 := zRa x y
 have h5 := zBO f g ns us a o hs hu hc ha ho
 rw [hx] at h1 h2 h4
 obtain ⟨p, hp⟩ : ∃ p, zMN x y = p := ⟨_, rfl⟩
 obtain ⟨q, hq⟩ : ∃ q, ((a : Int) == y.2.2) = q := ⟨_, rfl⟩
 obtain ⟨z, hz⟩ : ∃ z, fl us a o = z := ⟨_, rfl⟩
 have hal : alI us o x y = (p && (q && (!z || zOS x y))) := by rw [alI, hp, hx, hq, Int.toNat_natCast, hz]
 rw [hal]
 rw [hp] at h1
 rw [hz] at h5
 rw [hx]
 refine Fn.of (fn := Tryz.f211) (by kernel_rfl) rfl (by kernel_rfl) ⟨[.agg [.v (.int .i64 x.1), .v (.int .i64 x.2.1), .v (.int .i64 (a : Int))], .agg [.v (.int .i64 y.1), .v (.int .i64 y.2.1), .v (.int .i64 y.2.2)], .fad zEO, .fad [.sl f 1 (zS ns), .sl g 1 (zQ us), .v (.int .i64 (o : Int))], .v undef, .v undef, .v undef, .v undef, .v undef, .v undef, .v undef, .v undef, .v undef, .v undef, .v undef, .v undef, .v undef, .v undef, .v undef, .v undef, .v undef, .v undef, .v undef, .v undef, .v undef, .v undef, .v undef, .v undef, .v undef, .v undef, .v undef, .v undef, .v undef, .v undef, .v undef, .v undef, .v undef, .v undef, .v undef], []⟩ rfl ?_
 rcases p with _ | _
 rotate_left
 rcases q with _ | _
 rotate_left
 rcases z with _ | _
 all_goals
  repeat' first | (with_reducible first | refine zA ?_ | refine zB ?_ | refine zF ?_) | ((first | with_reducible refine zC fun KC J hJ hKC => ?_ | with_reducible refine zY rfl fun KC J hJ hKC => ?_ | (refine' hKC _ _ _ _ _ (zD (zBO _ _ _ _ _ _ ?_ ?_ ?_ ?_ ?_) rfl rfl rfl ?_ ?_); (rotate_left 11); (· exact Lq); (rotate_left 1); (iterate 5 (· exact Hq))) | (refine hKC _ _ _ _ _ (zD (h1) rfl rfl rfl ?_ ?_); (· exact Lq)) | (refine hKC _ _ _ _ _ (zD (h2) rfl rfl rfl ?_ ?_); (· exact Lq)) | (refine hKC _ _ _ _ _ (zD (h3) rfl rfl rfl ?_ ?_); (· exact Lq)) | (refine hKC _ _ _ _ _ (zD (h4) rfl rfl rfl ?_ ?_); (· exact Lq))); simp (maxSteps := 9999999) only [push_cast, seval, ↓reduceIte, hq, hz, undef]) | ((first | with_reducible refine hJ _ _ ?_ | (with_reducible refine hJ _ _ ?_ ?_; · kernel_rfl)); clear hJ hKC KC J)
  refine zE ?_
  simp (maxSteps := 9999999) only [push_cast, seval, ↓reduceIte, show Tryz.f211.results = #[(.tmp 6)] from rfl]
  exact zK _
def zCW (p : Int × Int × Int → Int × Int × Int → Bool) : List (Int × Int × Int) → List (Int × Int × Int) → Bool
 | [], [] => true
 | x :: xs, y :: ys => p x y && zCW p xs ys
 | _, _ => false
theorem zIs {p : Int × Int × Int → Int × Int × Int → Bool} : ∀ {xs ys : List (Int × Int × Int)}, ¬ xs.length = ys.length → zCW p xs ys = false
 | [], [], h => absurd rfl h
 | [], _ :: _, _ => rfl
 | _ :: _, [], _ => rfl
 | _ :: xs, _ :: ys, h => by rw [zCW, zIs (fun e => h (by simp [e]))]; simp
theorem zJd {p : Int × Int × Int → Int × Int × Int → Bool} : ∀ {xs ys : List (Int × Int × Int)}, xs.length = ys.length → (∀ (j : Nat) (x y : Int × Int × Int), xs[j]? = some x → ys[j]? = some y → p x y = true) → zCW p xs ys = true
 | [], [], _, _ => rfl
 | [], _ :: _, h, _ => by simp at h
 | _ :: _, [], h, _ => by simp at h
 | x :: xs, y :: ys, h, hp => by
  rw [zCW, hp 0 x y rfl rfl, zJd (by simpa using h) (fun j a b ha hb => hp (j + 1) a b (by simpa using ha) (by simpa using hb))]; rfl
theorem zKe {p : Int × Int × Int → Int × Int × Int → Bool} : ∀ {xs ys : List (Int × Int × Int)} {j : Nat} {x y : Int × Int × Int}, xs[j]? = some x → ys[j]? = some y → p x y = false → zCW p xs ys = false
 | [], _, j, x, y, h, _, _ => by simp at h
 | _ :: _, [], j, x, y, _, h, _ => by simp at h
 | a :: xs, b :: ys, 0, x, y, h1, h2, h3 => by simp at h1 h2; rw [zCW, h1, h2, h3]; rfl
 | a :: xs, b :: ys, j + 1, x, y, h1, h2, h3 => by rw [zCW, zKe (by simpa using h1) (by simpa using h2) h3]; simp
theorem zJr (f g : Bool) (xs ys : List (Int × Int × Int)) (cf : Nat) (caps : List D) (p : Int × Int × Int → Int × Int × Int → Bool) (hb : xs.length ≤ 9223372036854775807) (hc : zr caps = true)
  (hp : ∀ x ∈ xs, ∀ y, Fn Tryz.prog cf (.agg [.v (.int .i64 x.1), .v (.int .i64 x.2.1), .v (.int .i64 x.2.2)] :: .agg [.v (.int .i64 y.1), .v (.int .i64 y.2.1), .v (.int .i64 y.2.2)] :: caps) [] (.v (.bool (p x y))) []) : Fn Tryz.prog 210 [.sl f 3 (zo xs), .sl g 3 (zo ys), .fn cf caps] [] (.v (.bool (zCW p xs ys))) [] := by
 refine Fn.of (fn := Tryz.f210) (by kernel_rfl) rfl (by kernel_rfl) ⟨[.sl f 3 (zo xs), .sl g 3 (zo ys), .fn cf caps, .v undef, .v undef, .v undef, .v undef, .v undef, .v undef, .v undef, .v undef, .v undef, .v undef, .v undef, .v undef, .v undef, .v undef, .v undef, .v undef, .v undef, .v undef, .v undef, .v undef, .v undef, .v undef, .v undef, .v undef, .v undef, .v undef, .v undef, .v undef, .v undef], []⟩ rfl ?_
 by_cases hl : xs.length = ys.length
 ·have hl' : ((xs.length : Int) != (ys.length : Int)) = false := by simp [hl]
  repeat' first | (with_reducible first | refine zA ?_ | refine zB ?_ | refine zJ ?_ | refine zI ?_) | ((with_reducible refine zC fun KC J hJ hKC => ?_); simp (maxSteps := 9999999) only [push_cast, seval, ↓reduceIte, hl']) | ((with_reducible refine hJ _ _ ?_); clear hJ hKC KC J) | ((with_reducible refine zH ?_ ?_); · rfl)
  refine zw 0 (γ := {i : Nat // i ≤ xs.length ∧ ∀ (j : Nat) (x y : Int × Int × Int), j < i → xs[j]? = some x → ys[j]? = some y → p x y = true}) (fun i => ⟨[.sl f 3 (zo xs), .sl g 3 (zo ys), .fn cf caps, .any, .any, .any, .any, .any, .any, .any, .any, .any, .any, .any, .any, .sl f 3 (zo xs), .v (.int .i64 xs.length), .v (.int .i64 i.1), .any, .any, .any, .any, .any, .any, .any, .any, .any, .any, .any, .any, .any, .any], []⟩) (fun i => xs.length - i.1) ⟨0, by simp⟩ (fun i => rfl) (fun i => rfl) (fun i => ?_) ⟨?_, Fq⟩ ?_
  ·simp only [List.map_cons, List.map_nil, show ren (mOf (List.range 0)) (.fn cf caps) = .fn cf caps from by show D.fn cf (caps.map _) = _; rw [zDH (fun d hd => zEJ hd) hc]]
   rfl
  ·exact Lq
  ·rintro ⟨i, hi, hn⟩
   by_cases hlt : (i : Int) < (xs.length : Int)
   ·have hx : xs[i]? = some xs[i] := List.getElem?_eq_getElem (by omega)
    have hy : ys[i]? = some ys[i] := List.getElem?_eq_getElem (by omega)
    have hfn := hp xs[i] (List.getElem_mem (by omega)) ys[i]
    obtain ⟨a, ha⟩ : ∃ a, xs[i] = a := ⟨_, rfl⟩
    obtain ⟨b, hb2⟩ : ∃ b, ys[i] = b := ⟨_, rfl⟩
    rw [ha] at hx
    rw [hb2] at hy
    rw [ha, hb2] at hfn
    cases hpv : p a b with
    | true =>
     rw [hpv] at hfn
     repeat' first | (with_reducible first | refine zA ?_ | refine zB ?_ | refine zP ?_ | refine zJ ?_ | refine zI ?_) | ((with_reducible refine And.intro ?_ ?_); · exact Sq) | ((first | with_reducible refine zC fun KC J hJ hKC => ?_ | (refine hKC _ _ _ _ _ (zD (hfn) rfl rfl rfl ?_ ?_); (· exact Lq))); simp (maxSteps := 9999999) only [push_cast, seval, ↓reduceIte, hlt, zCj hx, zCj hy, zp (i := i) (n := xs.length) (by omega) hb]) | ((with_reducible refine hJ _ _ ?_); clear hJ hKC KC J) | ((with_reducible refine zG ?_ ?_); · rfl) | ((with_reducible refine zH ?_ ?_); · rfl)
     refine ⟨⟨i + 1, by omega, fun j x y hj h1 h2 => ?_⟩, by simp only; omega, ?_, ⟨_, rfl⟩⟩
     ·by_cases hji : j = i
      ·rw [hji] at h1 h2
       rw [hx] at h1; rw [hy] at h2
       cases h1; cases h2; exact hpv
      ·exact hn j x y (by omega) h1 h2
     ·exact Lq
    | false =>
     rw [hpv] at hfn
     repeat' first | (with_reducible first | refine zA ?_ | refine zB ?_ | refine zb ?_ | refine zAC ?_ | refine zF ?_ | refine zJ ?_ | refine zI ?_) | ((with_reducible refine And.intro ?_ ?_); · exact Sq) | ((first | with_reducible refine zC fun KC J hJ hKC => ?_ | (refine hKC _ _ _ _ _ (zD (hfn) rfl rfl rfl ?_ ?_); (· exact Lq))); simp (maxSteps := 9999999) only [push_cast, seval, ↓reduceIte, hlt, zCj hx, zCj hy]) | ((with_reducible refine hJ _ _ ?_); clear hJ hKC KC J) | ((with_reducible refine zG ?_ ?_); · rfl)
     refine zE ?_
     simp (maxSteps := 9999999) only [push_cast, seval, ↓reduceIte, show Tryz.f210.results = #[(.tmp 6)] from rfl]
     rw [zKe hx hy hpv]
     exact zK _
   ·skip
    repeat' first | (with_reducible first | refine zA ?_ | refine zB ?_ | refine zm ?_ | refine zl ?_ | refine zF ?_ | refine zZ ?_) | ((with_reducible refine zC fun KC J hJ hKC => ?_); simp (maxSteps := 9999999) only [push_cast, seval, ↓reduceIte, hlt]) | ((with_reducible refine hJ _ _ ?_); clear hJ hKC KC J) | ((with_reducible refine zH ?_ ?_); · rfl)
    refine zE ?_
    simp (maxSteps := 9999999) only [push_cast, seval, ↓reduceIte, show Tryz.f210.results = #[(.tmp 6)] from rfl]
    rw [zJd hl (fun j x y h1 h2 => hn j x y (by have := (List.getElem?_eq_some_iff.1 h1).1; omega) h1 h2)]
    exact zK _
 ·have hl' : ((xs.length : Int) != (ys.length : Int)) = true := by simp; omega
  repeat' first | (with_reducible first | refine zA ?_ | refine zB ?_ | refine zb ?_ | refine zF ?_) | ((with_reducible refine zC fun KC J hJ hKC => ?_); simp (maxSteps := 9999999) only [push_cast, seval, ↓reduceIte, hl']) | ((with_reducible refine hJ _ _ ?_); clear hJ hKC KC J) | ((with_reducible refine zG ?_ ?_); · rfl)
  refine zE ?_
  simp (maxSteps := 9999999) only [push_cast, seval, ↓reduceIte, show Tryz.f210.results = #[(.tmp 6)] from rfl]
  rw [zIs hl]
  exact zK _
theorem zBv (f g fa fb : Bool) (ns : List ByteArray) (us : List Nat) (o : Nat) (xs ys : List (Int × Int × Int)) (hs : Szs ns) (hu : U32 us) (hc : zAA ns us = 0) (ho : o < us.length) (hb : xs.length ≤ 1000) (hx : ∀ x ∈ xs, zx us.length x.2.2 = false) :
  Fn Tryz.prog 109 [.agg [.sl f 1 (zS ns), .sl g 1 (zQ us), .v (.int .i64 (o : Int))], .agg zEO, .sl fa 3 (zo xs), .sl fb 3 (zo ys)] [] (.v (.bool (zCW (alI us o) xs ys))) [] := by
 have hcf := zJr fa fb xs ys 211 [.fad zEO, .fad [.sl f 1 (zS ns), .sl g 1 (zQ us), .v (.int .i64 (o : Int))]] (alI us o) (by omega) rfl (fun x hm y => by
  obtain ⟨a, ha, hl⟩ := zBU (hx x hm)
  exact zNp f g ns us o a x y hs hu hc ha hl ho)
 refine Fn.of (fn := Tryz.f109) (by kernel_rfl) rfl (by kernel_rfl) ⟨[.agg [.sl f 1 (zS ns), .sl g 1 (zQ us), .v (.int .i64 (o : Int))], .agg zEO, .sl fa 3 (zo xs), .sl fb 3 (zo ys), .v undef, .v undef, .v undef, .v undef, .v undef, .v undef, .v undef, .v undef, .v undef], []⟩ rfl ?_
 repeat' first | (refine zU 1 0 rfl (by (simp (maxSteps := 9999999) only [push_cast, seval, ↓reduceIte]) <;> rfl) ?_; simp (maxSteps := 9999999) only [push_cast, seval, ↓reduceIte, zAK, zi, fr3, fr2, fr1, fr0, zq, zn, zr, Bool.and_self]) | (refine zU 1 1 rfl (by (simp (maxSteps := 9999999) only [push_cast, seval, ↓reduceIte]) <;> rfl) ?_; simp (maxSteps := 9999999) only [push_cast, seval, ↓reduceIte, zAK, zi, fr3, fr2, fr1, fr0, zq, zn, zr, Bool.and_self]) | (with_reducible first | refine zA ?_ | refine zB ?_ | refine zF ?_) | ((first | with_reducible refine zC fun KC J hJ hKC => ?_ | (refine hKC _ _ _ _ _ (zD (hcf) rfl rfl rfl ?_ ?_); (· exact Lq))); simp (maxSteps := 9999999) only [push_cast, seval, ↓reduceIte, zr, Bool.and_self]) | ((with_reducible refine hJ _ _ ?_); clear hJ hKC KC J)
 refine zE ?_
 simp (maxSteps := 9999999) only [push_cast, seval, ↓reduceIte, show Tryz.f109.results = #[(.tmp 8)] from rfl]
 exact zK _
def okL (n : Nat) (l : List Int) : Bool := l.all fun a => !zx n a
def zTD (n : Nat) (s : Sta) : Bool := okL n (s.code.map (·.2.2)) && (okL n (s.mem.map (·.2)) && (okL n (s.stack.map (·.2.2)) && (okL n (s.out.map (·.2)) && !zx n s.l)))
def zDX (ns : List ByteArray) (us : List Nat) (o : Int) (a b : Sta) : Int := if zAA ns us = 0 then if (!zx us.length o && (zTD us.length a && zTD us.length b)) = true then 0 else 9 else zAA ns us
def zMM {α : Type} (p : α → Bool) : List α → Nat
 | [] => 0
 | x :: r => if p x = true then r.length + 1 else zMM p r
def zEh {α : Type} (p : α → Bool) (l : List α) : Nat := zMM p l.reverse
theorem zJN {α : Type} (p : α → Bool) (l : List α) (x : α) : zEh p (l ++ [x]) = if p x = true then l.length + 1 else zEh p l := by
 simp [zEh, zMM]
theorem zNU {α : Type} {p : α → Bool} {l : List α} {i : Nat} {x : α} (h : l[i]? = some x) : zEh p (l.take (i + 1)) = if p x = true then i + 1 else zEh p (l.take i) := by
 obtain ⟨hi, rfl⟩ := List.getElem?_eq_some_iff.1 h
 rw [List.take_succ_eq_append_getElem hi, zJN, List.length_take, Nat.min_eq_left (by omega)]
theorem zMa {α : Type} (p : α → Bool) : ∀ l : List α, zMM p l ≤ l.length
 | [] => Nat.le_refl _
 | x :: r => by
  have := zMa p r
  unfold zMM
  split <;> simp only [List.length_cons] <;> omega
theorem zGf {α : Type} (p : α → Bool) (l : List α) : zEh p l ≤ l.length := by
 have := zMa p l.reverse
 simpa [zEh] using this
def zEt (us : List Nat) (o : Nat) (x : Bool × Int × Int) : Bool := x.1 && fl us x.2.2.toNat o
def zu (us : List Nat) (o : Nat) (s : List (Bool × Int × Int)) : List (Bool × Int × Int) := s.take (zEh (zEt us o) s)
theorem zTl {i : Nat} (h : i ≤ 1000000) : IntKind.i64.wrap ((i : Int) - 1) = (i : Int) - 1 := by rw [IntKind.wrap_i64]; omega
set_option maxHeartbeats 4000000 in
theorem zHw (f g fa : Bool) (ns : List ByteArray) (us : List Nat) (o : Nat) (s : List (Bool × Int × Int)) (hs : Szs ns) (hu : U32 us) (hc : zAA ns us = 0) (ho : o < us.length) (hb : s.length ≤ 1000) (hx : ∀ x ∈ s, zx us.length x.2.2 = false) :
  Fn Tryz.prog 114 [.agg [.sl f 1 (zS ns), .sl g 1 (zQ us), .v (.int .i64 (o : Int))], .sl fa 3 (zg s)] [] (.sl false 3 (zg (zu us o s))) [] := by
 have hw := zTl (i := s.length) (by omega)
 refine Fn.of (fn := Tryz.f114) (by kernel_rfl) rfl (by kernel_rfl) ⟨[.agg [.sl f 1 (zS ns), .sl g 1 (zQ us), .v (.int .i64 (o : Int))], .sl fa 3 (zg s), .v undef, .v undef, .v undef, .v undef, .v undef, .v undef, .v undef, .v undef, .v undef, .v undef, .v undef, .v undef, .v undef, .v undef, .v undef, .v undef, .v undef, .v undef, .v undef, .v undef, .v undef, .v undef, .v undef, .v undef, .v undef, .v undef, .v undef, .v undef, .v undef], []⟩ rfl ?_
 repeat' first | (with_reducible first | refine zA ?_ | refine zB ?_ | refine zI ?_) | ((with_reducible refine zC fun KC J hJ hKC => ?_); simp (maxSteps := 9999999) only [push_cast, seval, ↓reduceIte, hw]) | ((with_reducible refine hJ _ _ ?_); clear hJ hKC KC J)
 refine zw 1 (γ := {i : Nat // i ≤ s.length ∧ zEh (zEt us o) s = zEh (zEt us o) (s.take i)}) (fun i => ⟨[.any, .sl fa 3 (zg s), .ptr 0 0 0, .any, .v (.slice none 0 0), .v (.int .i64 ((i.1 : Int) - 1)), .any, .any, .any, .any, .any, .any, .any, .any, .any, .any, .any, .any, .any, .any, .any, .any, .any, .any, .any, .any, .any, .any, .any, .any, .any], [.ent ⟨0, none, 168, [.sl f 1 (zS ns), .sl g 1 (zQ us), .v (.int .i64 (o : Int))], .cells⟩]⟩) (fun i => i.1) ⟨s.length, by simp⟩ (fun i => rfl) (fun i => zAF rfl) (fun i => rfl) ⟨?_, Fq⟩ ?_
 ·exact Lq
 rintro ⟨i, hi, hk⟩
 rcases i with _ | j
 ·skip
  repeat' first | (with_reducible first | refine zA ?_ | refine zB ?_ | refine zm ?_ | refine zl ?_ | refine zF ?_ | refine zZ ?_) | ((with_reducible refine zC fun KC J hJ hKC => ?_); simp (maxSteps := 9999999) only [push_cast, seval, ↓reduceIte, (show decide ((0 : Int) ≤ ((0 : Nat) : Int) - 1) = false from rfl)]) | ((with_reducible refine hJ _ _ ?_); clear hJ hKC KC J) | ((with_reducible refine zH ?_ ?_); · rfl)
  refine zE ?_
  simp (maxSteps := 9999999) only [push_cast, seval, ↓reduceIte, show Tryz.f114.results = #[(.tmp 4)] from rfl]
  rw [zu, hk]
  exact zLR
 ·have hj : (((j + 1 : Nat) : Int) - 1) = (j : Int) := by omega
  have hj0 : decide ((0 : Int) ≤ (j : Int)) = true := decide_eq_true (by omega)
  have hx1 : s[j]? = some s[j] := List.getElem?_eq_getElem (by omega)
  have hxm := hx s[j] (List.getElem_mem (by omega))
  obtain ⟨⟨r, v, l⟩, hr0⟩ : ∃ r, s[j] = r := ⟨_, rfl⟩
  rw [hr0] at hx1 hxm
  obtain ⟨a, ha, hal⟩ := zBU hxm
  simp only at ha
  subst ha
  have hse := zBO f g ns us a o hs hu hc hal ho
  obtain ⟨z, hz⟩ : ∃ z, fl us a o = z := ⟨_, rfl⟩
  rw [hz] at hse
  have hst := zNU (p := zEt us o) hx1
  have hsf : zEt us o (r, v, (a : Int)) = (r && z) := by rw [zEt, Int.toNat_natCast, hz]
  rw [hsf] at hst
  have hwj := zTl (i := j) (by omega)
  simp only [hj]
  cases r
  case false =>
   repeat' first | (with_reducible first | refine zA ?_ | refine zB ?_ | refine zP ?_ | refine zJ ?_ | refine zI ?_) | ((with_reducible refine And.intro ?_ ?_); · exact Sq) | ((first | with_reducible refine zC fun KC J hJ hKC => ?_ | with_reducible refine zY rfl fun KC J hJ hKC => ?_); simp (maxSteps := 9999999) only [push_cast, seval, ↓reduceIte, hj0, zBi hx1, hz, hwj, undef]) | ((first | with_reducible refine hJ _ _ ?_ | (with_reducible refine hJ _ _ ?_ ?_; · kernel_rfl)); clear hJ hKC KC J) | ((with_reducible refine zG ?_ ?_); · rfl) | ((with_reducible refine zH ?_ ?_); · rfl)
   refine ⟨⟨j, by omega, by rw [hk, hst]; rfl⟩, by simp only; omega, ?_, ⟨_, rfl⟩⟩
   exact Lq
  cases z
  case false =>
   repeat' first | (with_reducible first | refine zA ?_ | refine zB ?_ | refine zP ?_ | refine zJ ?_ | refine zI ?_) | ((with_reducible refine And.intro ?_ ?_); · exact Sq) | ((first | with_reducible refine zC fun KC J hJ hKC => ?_ | with_reducible refine zY rfl fun KC J hJ hKC => ?_ | (refine' hKC _ _ _ _ _ (zD (zBO _ _ _ _ _ _ ?_ ?_ ?_ ?_ ?_) rfl rfl rfl ?_ ?_); (rotate_left 11); (· exact Lq); (rotate_left 1); (iterate 5 (· exact Hq)))); simp (maxSteps := 9999999) only [push_cast, seval, ↓reduceIte, hj0, zBi hx1, hz, hwj, undef]) | ((first | with_reducible refine hJ _ _ ?_ | (with_reducible refine hJ _ _ ?_ ?_; · kernel_rfl)); clear hJ hKC KC J) | ((with_reducible refine zG ?_ ?_); · rfl) | ((with_reducible refine zH ?_ ?_); · rfl)
   refine ⟨⟨j, by omega, by rw [hk, hst]; rfl⟩, by simp only; omega, ?_, ⟨_, rfl⟩⟩
   exact Lq
  have hcr : zu us o s = s.take (j + 1) := by rw [zu, hk, hst]; rfl
  repeat' first | (with_reducible first | refine zA ?_ | refine zB ?_ | refine zb ?_ | refine zAC ?_ | refine zF ?_ | refine zJ ?_ | refine zI ?_) | ((with_reducible refine And.intro ?_ ?_); · exact Sq) | ((first | with_reducible refine zC fun KC J hJ hKC => ?_ | with_reducible refine zY rfl fun KC J hJ hKC => ?_ | (refine' hKC _ _ _ _ _ (zD (zBO _ _ _ _ _ _ ?_ ?_ ?_ ?_ ?_) rfl rfl rfl ?_ ?_); (rotate_left 11); (· exact Lq); (rotate_left 1); (iterate 5 (· exact Hq)))); simp (maxSteps := 9999999) only [push_cast, seval, ↓reduceIte, hj0, zBi hx1, hz, zp (i := j) (n := s.length) (by omega) (by omega), undef]) | ((first | with_reducible refine hJ _ _ ?_ | (with_reducible refine hJ _ _ ?_ ?_; · kernel_rfl)); clear hJ hKC KC J) | ((with_reducible refine zG ?_ ?_); · rfl)
  refine zE ?_
  simp (maxSteps := 9999999) only [push_cast, seval, ↓reduceIte, show Tryz.f114.results = #[(.tmp 4)] from rfl]
  rw [hcr]
  exact zK _
theorem zBs {α : Type} {K : Int} {k : Nat} (h : K = k) (l : List α) : l.take (if K < (l.length : Int) then K else (l.length : Int)).toNat = l.take k := by
 subst h
 split
 ·simp
 ·rw [Int.toNat_natCast, List.take_length, List.take_of_length_le (by omega)]
def zJf (s : ByteArray) : ByteArray := s.extract 0 (if (15 : Int) < (s.size : Int) then 15 else (s.size : Int)).toNat
def zEw (xs : List ByteArray) (i : Nat) : List ByteArray := (xs.take i).map zJf
theorem zEq {xs : List ByteArray} {i : Nat} (h : i ≤ xs.length) : (zEw xs i).length = i := by simp [zEw]; omega
theorem zKQ {xs : List ByteArray} {i : Nat} {a : ByteArray} (h : xs[i]? = some a) : zEw xs (i + 1) = zEw xs i ++ [zJf a] := by
 obtain ⟨hi, rfl⟩ := List.getElem?_eq_some_iff.1 h
 rw [zEw, List.take_succ_eq_append_getElem hi, List.map_append]; rfl
def fσ (e1 e2 : Ent) (u : D) (xs : List ByteArray) : Nat → List Slot
 | 0 => [.ent e1, .ent e2, .ent ⟨0, none, 25, [.v (.slice none 0 0), u], .cells⟩]
 | i + 1 => [.ent e1, .ent e2, .ent ⟨0, none, 25, [.ref 4 i (i + 1), u], .cells⟩, .free, .ent ⟨i, some 1, 9, zDM (zEw xs (i + 1)), .cells⟩]
section
variable (e1 e2 : Ent) (u : D) (xs : List ByteArray)
theorem zOa : fσ e1 e2 u xs 0 = [.ent e1, .ent e2, .ent ⟨0, none, 25, [.v (.slice none 0 0), u], .cells⟩] := rfl
theorem zLB {i j : Nat} (h : i = j + 1) : fσ e1 e2 u xs i = [.ent e1, .ent e2, .ent ⟨0, none, 25, [.ref 4 j i, u], .cells⟩, .free, .ent ⟨j, some 1, 9, zDM (zEw xs i), .cells⟩] := by subst h; rfl
theorem zUO {a : ByteArray} (h : xs[0]? = some a) : fσ e1 e2 u xs (0 + 1) = [.ent e1, .ent e2, .ent ⟨0, none, 25, [.ref 4 0 1, u], .cells⟩, .free, .ent ⟨0, some 1, 9, [.v (.string (zJf a))], .cells⟩] := by
 rw [zLB e1 e2 u xs rfl, zKQ h]; rfl
theorem zSl {i j : Nat} (h : i = j + 1) {a : ByteArray} (hx : xs[i]? = some a) : fσ e1 e2 u xs (i + 1) = [.ent e1, .ent e2, .ent ⟨0, none, 25, [.ref 4 (j + 1) (i + 1), u], .cells⟩, .free, .ent ⟨j + 1, some 1, 9, zDM (zEw xs i) ++ [.v (.string (zJf a))], .cells⟩] := by
 rw [zLB e1 e2 u xs rfl, zKQ hx, h]; simp [zDM]
end
theorem zQQ (s : ByteArray) : (zJf s).size ≤ 9223372036854775807 := by
 unfold zJf
 rw [ByteArray.size_extract]
 split <;> omega
theorem zTb (ns : List ByteArray) : Szs ((ns.take 10).map zJf) := by
 intro s hs
 obtain ⟨x, _, rfl⟩ := List.mem_map.1 hs
 exact zQQ x
theorem zSu {us : List Nat} (h : U32 us) : U32 (us.take 10) := fun u hu => h u (List.mem_of_mem_take hu)
def zER (s : List (Bool × Int × Int)) : List Int := s.map (·.2.2)
theorem zKY (f : Bool) (s : List (Bool × Int × Int)) : zAv [(f, s)] = zER s := by simp [zAv, zER]
def zMF (ns : List ByteArray) (us : List Nat) (o : Int) (s : List (Bool × Int × Int)) : Int := zEm ns us (zER s ++ [o])
def zOz (ns : List ByteArray) (us : List Nat) (o : Int) (s : List (Bool × Int × Int)) : List (Bool × Int × Int) := if zMF ns us o s = 0 then zu us o.toNat s else []
theorem zTO {ns : List ByteArray} {us : List Nat} {L : List Int} (h : zEm ns us L = 0) : zAA ns us = 0 ∧ ∀ x ∈ L, zx us.length x = false := by
 unfold zEm at h
 split at h
 ·rename_i hc
  split at h
  ·cases h
  ·rename_i ha
   have ha' : L.any (zx us.length) = false := by simpa using ha
   rw [List.any_eq_false] at ha'
   exact ⟨hc, fun x hx => by simpa using ha' x hx⟩
 ·rename_i hc; exact absurd h hc
set_option maxHeartbeats 4000000 in
theorem zDf (f g fa : Bool) (ns : List ByteArray) (us : List Nat) (o : Int) (s : List (Bool × Int × Int)) (hs : Szs ns) (hu : U32 us) (hl : s.length ≤ 100) :
  Fn Tryz.prog 178 [.agg [.sl f 1 (zS ns), .sl g 1 (zQ us)], .v (.int .i64 o), .sl fa 3 (zg s)] [] (.tup [.sl false 3 (zg (zOz ns us o s)), .v (.int .i64 (zMF ns us o s))]) [] := by
 have hlab := zIv true [(fa, s)] (by rw [zKY]; simp [zER]; omega) (by simp) (by intro r hr; simp at hr; subst hr; simp; omega)
 rw [zKY] at hlab
 have hLl : (zER s).length ≤ 200 := by simp [zER]; omega
 have hrow : zFE [(fa, s)] = [[.sl fa 3 (zg s)]] := rfl
 rw [hrow] at hlab
 obtain ⟨m, hm⟩ : ∃ m, zMF ns us o s = m := ⟨_, rfl⟩
 have hcr : m = 0 → Fn Tryz.prog 114 [.agg [.sl f 1 (zS ns), .sl g 1 (zQ us), .v (.int .i64 o)], .sl fa 3 (zg s)] [] (.sl false 3 (zg (zu us o.toNat s))) [] := fun h0 => by
  obtain ⟨h1, h2⟩ := zTO (hm.trans h0)
  obtain ⟨b, rfl, hb⟩ := zBU (h2 o (by simp))
  rw [Int.toNat_natCast]
  exact zHw f g fa ns us b s hs hu h1 hb (by omega) (fun x hx => h2 _ (List.mem_append_left _ (List.mem_map_of_mem hx)))
 have hm' : zEm ns us (zER s ++ [o]) = m := hm
 rw [zOz, hm]
 obtain ⟨L, hL⟩ : ∃ L, zER s = L := ⟨_, rfl⟩
 rw [hL] at hlab hLl hm'
 have hmk : ∀ ge, Fn Tryz.prog 108 [.agg [.sl f 1 (zS ns), .sl g 1 (zQ us)], .ref 0 ge (L.length + 1)] [.ent ⟨ge, some 1, 3, zt L ++ [.v (.int .i64 o)], .cells⟩] (.v (.int .i64 m)) [.dead] := fun ge => by
  have := zSR f g ns us (L ++ [o]) ge (L.length + 1) (by simp) hs hu (by simp; omega)
  rw [zEF, hm'] at this
  exact this
 refine Fn.of (fn := Tryz.f178) (by kernel_rfl) rfl (by kernel_rfl) ⟨[.agg [.sl f 1 (zS ns), .sl g 1 (zQ us)], .v (.int .i64 o), .sl fa 3 (zg s), .v undef, .v undef, .v undef, .v undef, .v undef, .v undef, .v undef, .v undef, .v undef, .v undef, .v undef, .v undef, .v undef, .v undef, .v undef, .v undef, .v undef, .v undef, .v undef, .v undef, .v undef, .v undef, .v undef], []⟩ rfl ?_
 obtain ⟨z, hz⟩ : ∃ z, (m != 0) = z := ⟨_, rfl⟩
 have hz0 : z = false → m = 0 := fun h => by rw [h] at hz; simpa using hz
 have hz1 : z = true → ¬ m = 0 := fun h => by rw [h] at hz; simpa using hz
 rcases Nat.eq_zero_or_pos L.length with h0 | h0
 ·have hL0 : L = [] := List.eq_nil_of_length_eq_zero h0
  subst hL0
  have e1 : lD [] = .v (.slice none 0 0) := rfl
  have e2 : zFt [] = [] := rfl
  rw [e1, e2] at hlab
  cases z
  case false =>
   have hcr := hcr (hz0 rfl)
   have hm0 := hz0 rfl
   rw [if_pos hm0]
   repeat' first | (with_reducible first | refine zA ?_ | refine zB ?_ | refine zF ?_ | refine zJ ?_) | ((first | with_reducible refine zC fun KC J hJ hKC => ?_ | with_reducible refine zY rfl fun KC J hJ hKC => ?_ | (refine' hKC _ _ _ _ _ (zD (zBW) rfl rfl rfl ?_ ?_); (· exact Lq)) | (refine hKC _ _ _ _ _ (zD hlab rfl rfl rfl ⟨zK _, zK _, trivial⟩ ?_)) | (refine hKC _ _ _ _ _ (zT [5] (hmk 0) rfl rfl rfl (by decide) (by simp) rfl (by simp only [push_cast, pick, mOf, idx, zL]; rfl) (by simp only [push_cast, mOf, idx]; exact ⟨zK _, zK _, trivial⟩) ?_)) | (refine hKC _ _ _ _ _ (zD (hcr) rfl rfl rfl ?_ ?_); (· exact Lq))); simp (maxSteps := 9999999) only [push_cast, seval, ↓reduceIte, hz, zX, zN, zL, pick, mOf, idx]) | ((first | with_reducible refine hJ _ _ ?_ | (with_reducible refine hJ _ _ ?_ ?_; · kernel_rfl)); clear hJ hKC KC J) | ((with_reducible refine zH ?_ ?_); · rfl)
   refine zE ?_
   simp (maxSteps := 9999999) only [push_cast, seval, ↓reduceIte, show Tryz.f178.results = #[(.tmp 6), (.tmp 7)] from rfl]
   rw [hm0]
   exact Lq
  rw [if_neg (hz1 rfl)]
  repeat' first | (with_reducible first | refine zA ?_ | refine zB ?_ | refine zb ?_ | refine zF ?_) | ((first | with_reducible refine zC fun KC J hJ hKC => ?_ | with_reducible refine zY rfl fun KC J hJ hKC => ?_ | (refine' hKC _ _ _ _ _ (zD (zBW) rfl rfl rfl ?_ ?_); (· exact Lq)) | (refine hKC _ _ _ _ _ (zD hlab rfl rfl rfl ⟨zK _, zK _, trivial⟩ ?_)) | (refine hKC _ _ _ _ _ (zT [5] (hmk 0) rfl rfl rfl (by decide) (by simp) rfl (by simp only [push_cast, pick, mOf, idx, zL]; rfl) (by simp only [push_cast, mOf, idx]; exact ⟨zK _, zK _, trivial⟩) ?_))); simp (maxSteps := 9999999) only [push_cast, seval, ↓reduceIte, hz, zX, zN, zL, pick, mOf, idx]) | ((first | with_reducible refine hJ _ _ ?_ | (with_reducible refine hJ _ _ ?_ ?_; · kernel_rfl)); clear hJ hKC KC J) | ((with_reducible refine zG ?_ ?_); · rfl)
  refine zE ?_
  simp (maxSteps := 9999999) only [push_cast, seval, ↓reduceIte, show Tryz.f178.results = #[(.tmp 6), (.tmp 7)] from rfl]
  exact Lq
 obtain ⟨q, hq⟩ : ∃ q, L.length = q + 1 := ⟨L.length - 1, by omega⟩
 have e1 : lD L = .ref 0 q (q + 1) := by unfold lD; rw [hq]; rfl
 have e2 : zFt L = [.ent ⟨q, some 1, 3, zt L, .cells⟩] := by unfold zFt; rw [hq]; rfl
 rw [e1, e2] at hlab
 rw [hq] at hmk
 have hlC : (zt L).length = q + 1 := by rw [zAM, hq]
 have htC := zGY hlC
 have htC' : (zt L).take (q + 1) = zt L := List.take_of_length_le (by omega)
 have hbm : Nat.beq q q = true := Nat.beq_refl q
 cases z
 case false =>
  have hcr := hcr (hz0 rfl)
  have hm0 := hz0 rfl
  rw [if_pos hm0]
  repeat' first | (with_reducible first | refine zA ?_ | refine zB ?_ | refine zF ?_ | refine zJ ?_) | ((with_reducible refine And.intro ?_ ?_); · exact Sq) | ((first | with_reducible refine zC fun KC J hJ hKC => ?_ | with_reducible refine zY rfl fun KC J hJ hKC => ?_ | (refine' hKC _ _ _ _ _ (zD (zBW) rfl rfl rfl ?_ ?_); (· exact Lq)) | (refine hKC _ _ _ _ _ (zBb [] hlab rfl rfl rfl (by simp) (fun _ h => by cases h) rfl rfl rfl ⟨zK _, zK _, trivial⟩ ?_)) | (refine hKC _ _ _ _ _ (zT [3] (hmk (q + 1)) rfl rfl rfl (by decide) (by simp) rfl (by simp only [push_cast, pick, mOf, idx, zL, zAE, List.map_append]) (by simp only [push_cast, mOf, idx]; exact ⟨zK _, zK _, trivial⟩) ?_)) | (refine hKC _ _ _ _ _ (zD (hcr) rfl rfl rfl ?_ ?_); (· exact Lq))); simp (maxSteps := 9999999) only [push_cast, seval, ↓reduceIte, hz, zX, zN, zL, pick, mOf, idx, hlC, htC, htC', hbm, zAE]) | ((first | with_reducible refine hJ _ _ ?_ | (with_reducible refine hJ _ _ ?_ ?_; · kernel_rfl)); clear hJ hKC KC J) | ((with_reducible refine zH ?_ ?_); · rfl)
  refine zE ?_
  simp (maxSteps := 9999999) only [push_cast, seval, ↓reduceIte, show Tryz.f178.results = #[(.tmp 6), (.tmp 7)] from rfl]
  rw [hm0]
  exact Lq
 rw [if_neg (hz1 rfl)]
 repeat' first | (with_reducible first | refine zA ?_ | refine zB ?_ | refine zb ?_ | refine zF ?_) | ((with_reducible refine And.intro ?_ ?_); · exact Sq) | ((first | with_reducible refine zC fun KC J hJ hKC => ?_ | with_reducible refine zY rfl fun KC J hJ hKC => ?_ | (refine' hKC _ _ _ _ _ (zD (zBW) rfl rfl rfl ?_ ?_); (· exact Lq)) | (refine hKC _ _ _ _ _ (zBb [] hlab rfl rfl rfl (by simp) (fun _ h => by cases h) rfl rfl rfl ⟨zK _, zK _, trivial⟩ ?_)) | (refine hKC _ _ _ _ _ (zT [3] (hmk (q + 1)) rfl rfl rfl (by decide) (by simp) rfl (by simp only [push_cast, pick, mOf, idx, zL, zAE, List.map_append]) (by simp only [push_cast, mOf, idx]; exact ⟨zK _, zK _, trivial⟩) ?_))); simp (maxSteps := 9999999) only [push_cast, seval, ↓reduceIte, hz, zX, zN, zL, pick, mOf, idx, hlC, htC, htC', hbm, zAE]) | ((first | with_reducible refine hJ _ _ ?_ | (with_reducible refine hJ _ _ ?_ ?_; · kernel_rfl)); clear hJ hKC KC J) | ((with_reducible refine zG ?_ ?_); · rfl)
 refine zE ?_
 simp (maxSteps := 9999999) only [push_cast, seval, ↓reduceIte, show Tryz.f178.results = #[(.tmp 6), (.tmp 7)] from rfl]
 exact Lq
def zDN (us : List Nat) (o : Nat) (a b : Sta) : Bool :=
 zCW (alI us o) a.code b.code && (zCU (alA us o) a.mem b.mem && (decide (a.out.filter (zEN us o) = b.out.filter (zEN us o)) &&
  match fl us a.l.toNat o with
  | true => fl us b.l.toNat o && ((a.v == b.v && a.l == b.l) && zCZ (alS us o) a.stack b.stack)
  | false => !fl us b.l.toNat o && zCZ (alS us o) (zu us o a.stack) (zu us o b.stack)))
def zHd (o : Int) (a b : Sta) : List (Bool × List Int) := [(true, [o, a.l, b.l]), (false, zBB [(false, a.code), (false, b.code)]), (false, zBE [(false, a.mem), (false, b.mem), (false, a.out), (false, b.out)]), (false, zAv [(false, a.stack), (false, b.stack)])]
theorem zSX (n : Nat) (l : List Int) : okL n l = !l.any (zx n) := by
 rw [okL, List.all_eq_not_any_not]; simp
theorem zQM (ns : List ByteArray) (us : List Nat) (o : Int) (a b : Sta) : zEm ns us (zBA (zHd o a b)) = zDX ns us o a b := by
 unfold zDX zEm
 by_cases hc : zAA ns us = 0
 ·rw [if_pos hc, if_pos hc]
  simp only [zBA, zHd, List.flatMap_cons, List.flatMap_nil, zTD, zSX, List.any_append, List.any_cons, List.any_nil, zBB, zBE, zAv, List.map_append, List.append_nil, Bool.or_false, Bool.false_or]
  cases zx us.length o <;> cases zx us.length a.l <;> cases zx us.length b.l <;> cases (a.code.map _).any (zx us.length) <;> cases (b.code.map _).any (zx us.length) <;> cases (a.mem.map _).any (zx us.length) <;> cases (b.mem.map _).any (zx us.length) <;> cases (a.stack.map _).any (zx us.length) <;> cases (b.stack.map _).any (zx us.length) <;> cases (a.out.map _).any (zx us.length) <;> cases (b.out.map _).any (zx us.length) <;> rfl
 ·rw [if_neg hc, if_neg hc]
structure OkT (ns : List ByteArray) (us : List Nat) (o : Int) (a b : Sta) : Prop where
 chk : zAA ns us = 0
 ob : zx us.length o = false
 la : zx us.length a.l = false
 lb : zx us.length b.l = false
 ca : ∀ x ∈ a.code, zx us.length x.2.2 = false
 cb : ∀ x ∈ b.code, zx us.length x.2.2 = false
 ma : ∀ x ∈ a.mem, zx us.length x.2 = false
 mb : ∀ x ∈ b.mem, zx us.length x.2 = false
 sa : ∀ x ∈ a.stack, zx us.length x.2.2 = false
 sb : ∀ x ∈ b.stack, zx us.length x.2.2 = false
 oa : ∀ x ∈ a.out, zx us.length x.2 = false
 oo : ∀ x ∈ b.out, zx us.length x.2 = false
theorem zNY {ns : List ByteArray} {us : List Nat} {o : Int} {a b : Sta} (h : zDX ns us o a b = 0) : OkT ns us o a b := by
 unfold zDX at h
 split at h
 ·rename_i hc
  split at h
  ·rename_i hh
   simp only [zTD, okL, Bool.and_eq_true, Bool.not_eq_true', List.all_eq_true, List.mem_map, forall_exists_index, and_imp, forall_apply_eq_imp_iff₂] at hh
   obtain ⟨h0, ⟨h1, h2, h3, h4, h5⟩, ⟨g1, g2, g3, g4, g5⟩⟩ := hh
   exact ⟨hc, h0, h5, g5, h1, g1, h2, g2, h3, g3, h4, g4⟩
  ·cases h
 ·rename_i hc; exact absurd h hc
theorem zJI (x y : List (Int × Int × Int)) : (zBB [(false, x), (false, y)]).length = x.length + y.length := by simp [zBB]
theorem zJF (x y : List (Bool × Int × Int)) : (zAv [(false, x), (false, y)]).length = x.length + y.length := by simp [zAv]
theorem zJP (x y z w : List (Int × Int)) : (zBE [(false, x), (false, y), (false, z), (false, w)]).length = x.length + (y.length + (z.length + w.length)) := by simp [zBE]
theorem zMq (o : Int) (a b : Sta) : (zBA (zHd o a b)).length = 3 + (a.code.length + b.code.length) + (a.mem.length + (b.mem.length + (a.out.length + b.out.length))) + (a.stack.length + b.stack.length) := by
 simp only [zBA, zHd, List.flatMap_cons, List.flatMap_nil, List.length_append, List.length_cons, List.length_nil, zJI, zJF, zJP]
 omega
set_option maxHeartbeats 8000000 in
theorem zLX (ns : List ByteArray) (us : List Nat) (o : Int) (a b : Sta) (hs : Szs ns) (hu : U32 us) (ha : Sml15 a) (hb : Sml15 b) :
  Fn Tryz.prog 49 [.agg [.sl false 1 (zS ns), .sl false 1 (zQ us)], .v (.int .i64 o), .agg (zAO false false false false a), .agg (zAO false false false false b)] [] (.tup [.v (.bool (decide (zDX ns us o a b = 0) && zDN us o.toNat a b)), .v (.int .i64 (zDX ns us o a b))]) [] := by
 obtain ⟨ha1, ha2, ha3, ha4⟩ := ha
 obtain ⟨hb1, hb2, hb3, hb4⟩ := hb
 have l1 := zNC true [(false, a.code), (false, b.code)] (by rw [zJI]; omega) (by simp) (by intro r hr; simp at hr; rcases hr with rfl | rfl <;> simp <;> omega)
 have l2 := zMI true [(false, a.mem), (false, b.mem), (false, a.out), (false, b.out)] (by rw [zJP]; omega) (by simp) (by intro r hr; simp at hr; rcases hr with rfl | rfl | rfl | rfl <;> simp <;> omega)
 have l3 := zMR true [(false, a.stack), (false, b.stack)] (by rw [zJF]; omega) (by simp) (by intro r hr; simp at hr; rcases hr with rfl | rfl <;> simp <;> omega)
 have hfl := zMq o a b
 have hcc := zKd true (zHd o a b) (by omega) (by omega) (by simp [zHd])
 have hmm := zQM ns us o a b
 obtain ⟨m, hm⟩ : ∃ m, zDX ns us o a b = m := ⟨_, rfl⟩
 rw [hm] at hmm ⊢
 obtain ⟨L, hL⟩ : ∃ L, zBA (zHd o a b) = L := ⟨_, rfl⟩
 have hLl : L.length ≤ 1000 := by rw [← hL]; omega
 rw [hL] at hmm hcc
 have hmy := zTz false false false ns us L hs hu hLl
 rw [hmm] at hmy
 have e1 : zFh [(false, a.code), (false, b.code)] = [[.sl false 3 (zo a.code)], [.sl false 3 (zo b.code)]] := rfl
 have e2 : zFf [(false, a.mem), (false, b.mem), (false, a.out), (false, b.out)] = [[.sl false 2 (za a.mem)], [.sl false 2 (za b.mem)], [.sl false 2 (za a.out)], [.sl false 2 (za b.out)]] := rfl
 have e3 : zFE [(false, a.stack), (false, b.stack)] = [[.sl false 3 (zg a.stack)], [.sl false 3 (zg b.stack)]] := rfl
 rw [e1] at l1
 rw [e2] at l2
 rw [e3] at l3
 have e4 : zEj (zHd o a b) = [[.sl true 1 [[.v (.int .i64 o)], [.v (.int .i64 a.l)], [.v (.int .i64 b.l)]]], [.sl false 1 (zM (zBB [(false, a.code), (false, b.code)]))], [.sl false 1 (zM (zBE [(false, a.mem), (false, b.mem), (false, a.out), (false, b.out)]))], [.sl false 1 (zM (zAv [(false, a.stack), (false, b.stack)]))]] := rfl
 rw [e4] at hcc
 obtain ⟨L1, hL1⟩ : ∃ L1, zBB [(false, a.code), (false, b.code)] = L1 := ⟨_, rfl⟩
 obtain ⟨L2, hL2⟩ : ∃ L2, zBE [(false, a.mem), (false, b.mem), (false, a.out), (false, b.out)] = L2 := ⟨_, rfl⟩
 obtain ⟨L3, hL3⟩ : ∃ L3, zAv [(false, a.stack), (false, b.stack)] = L3 := ⟨_, rfl⟩
 rw [hL1] at l1 hcc
 rw [hL2] at l2 hcc
 rw [hL3] at l3 hcc
 clear hL1 hL2 hL3 hfl e1 e2 e3 e4
 by_cases h0 : m = 0
 ·have hk := zNY (hm.trans h0)
  obtain ⟨hc, ob, la, lb, ca, cb, ma, mb, sa, sb, oa, oo⟩ := hk
  obtain ⟨va, la', code, mem, stack, out⟩ := a
  obtain ⟨vb, lb', code2, mem2, stack2, out2⟩ := b
  obtain ⟨p, rfl, hp⟩ := zBU ob
  simp only at *
  obtain ⟨x, rfl, hx⟩ := zBU la
  obtain ⟨y, rfl, hy⟩ := zBU lb
  subst h0
  have f1 := zBv false false false false ns us p code code2 hs hu hc hp (by omega) ca
  have f2 := zCN false false false false ns us p mem mem2 hs hu hc hp (by omega) ma
  have f3 := zEV false false false false ns us p out out2 hs hu hc hp (by omega) (by omega) oa oo
  have f4 := zBO false false ns us x p hs hu hc hx hp
  have f5 := zBO false false ns us y p hs hu hc hy hp
  have f6 := zGw false false false false ns us p stack stack2 hs hu hc hp (by omega) sa
  have hcl : ∀ s, (zu us p s).length ≤ s.length := fun s => by rw [zu, List.length_take]; exact Nat.min_le_right _ _
  have f7 := zHw false false false ns us p stack hs hu hc hp (by omega) sa
  have f8 := zHw false false false ns us p stack2 hs hu hc hp (by omega) sb
  have f9 := zGw false false false false ns us p (zu us p stack) (zu us p stack2) hs hu hc hp (by have := hcl stack; omega) (fun z hz => sa z (List.mem_of_mem_take hz))
  simp only [zDN, Int.toNat_natCast]
  obtain ⟨c1, hc1⟩ : ∃ c, zCW (alI us p) code code2 = c := ⟨_, rfl⟩
  obtain ⟨c2, hc2⟩ : ∃ c, zCU (alA us p) mem mem2 = c := ⟨_, rfl⟩
  obtain ⟨c3, hc3⟩ : ∃ c, decide (out.filter (zEN us p) = out2.filter (zEN us p)) = c := ⟨_, rfl⟩
  obtain ⟨c4, hc4⟩ : ∃ c, fl us x p = c := ⟨_, rfl⟩
  obtain ⟨c5, hc5⟩ : ∃ c, fl us y p = c := ⟨_, rfl⟩
  obtain ⟨c6, hc6⟩ : ∃ c, (va == vb && (x : Int) == (y : Int)) = c := ⟨_, rfl⟩
  rw [hc1, hc2, hc3, hc4, hc5, hc6]
  rw [hc1] at f1
  rw [hc2] at f2
  rw [hc3] at f3
  rw [hc4] at f4
  rw [hc5] at f5
  refine Fn.of (fn := Tryz.f49) (by kernel_rfl) rfl (by kernel_rfl) ⟨[.agg [.sl false 1 (zS ns), .sl false 1 (zQ us)], .v (.int .i64 (p : Int)), .agg (zAO false false false false ⟨va, (x : Int), code, mem, stack, out⟩), .agg (zAO false false false false ⟨vb, (y : Int), code2, mem2, stack2, out2⟩), .v undef, .v undef, .v undef, .v undef, .v undef, .v undef, .v undef, .v undef, .v undef, .v undef, .v undef, .v undef, .v undef, .v undef, .v undef, .v undef, .v undef, .v undef, .v undef, .v undef, .v undef, .v undef, .v undef, .v undef, .v undef, .v undef, .v undef, .v undef, .v undef, .v undef, .v undef, .v undef, .v undef, .v undef, .v undef, .v undef, .v undef, .v undef, .v undef, .v undef, .v undef, .v undef, .v undef, .v undef, .v undef, .v undef, .v undef, .v undef, .v undef, .v undef, .v undef, .v undef, .v undef, .v undef, .v undef, .v undef, .v undef, .v undef, .v undef, .v undef, .v undef, .v undef, .v undef, .v undef, .v undef, .v undef, .v undef, .v undef, .v undef, .v undef, .v undef, .v undef, .v undef, .v undef, .v undef, .v undef, .v undef, .v undef, .v undef, .v undef, .v undef, .v undef, .v undef, .v undef, .v undef, .v undef, .v undef, .v undef, .v undef, .v undef, .v undef, .v undef, .v undef, .v undef, .v undef, .v undef, .v undef, .v undef, .v undef, .v undef, .v undef, .v undef, .v undef, .v undef, .v undef, .v undef, .v undef, .v undef, .v undef, .v undef, .v undef, .v undef, .v undef, .v undef, .v undef, .v undef, .v undef, .v undef, .v undef, .v undef, .v undef, .v undef, .v undef], []⟩ rfl ?_
  simp only [zAO]
  cases c1
  case false =>
   repeat' first | (with_reducible first | refine zA ?_ | refine zB ?_ | refine zb ?_ | refine zF ?_ | refine zJ ?_) | ((first | with_reducible refine zC fun KC J hJ hKC => ?_ | with_reducible refine zY rfl fun KC J hJ hKC => ?_ | (refine' hKC _ _ _ _ _ (zD (zCV) rfl rfl rfl ?_ ?_); (· exact Lq)) | (refine' hKC _ _ _ _ _ (zD (zCb) rfl rfl rfl ?_ ?_); (· exact Lq)) | (refine' hKC _ _ _ _ _ (zD (zBW) rfl rfl rfl ?_ ?_); (· exact Lq)) | (refine' hKC _ _ _ _ _ (zD (zBv _ _ _ _ _ _ _ _ _ ?_ ?_ ?_ ?_ ?_ ?_) rfl rfl rfl ?_ ?_); (rotate_left 15); (· exact Lq); (rotate_left 1); (iterate 6 (· exact Hq))) | (refine hKC _ _ _ _ _ (zD (l1) rfl rfl rfl ?_ ?_); (· exact Lq)) | (refine hKC _ _ _ _ _ (zD (l2) rfl rfl rfl ?_ ?_); (· exact Lq)) | (refine hKC _ _ _ _ _ (zD (l3) rfl rfl rfl ?_ ?_); (· exact Lq)) | (refine hKC _ _ _ _ _ (zD (hcc) rfl rfl rfl ?_ ?_); (· exact Lq)) | (refine hKC _ _ _ _ _ (zD (hmy) rfl rfl rfl ?_ ?_); (· exact Lq))); simp (maxSteps := 9999999) only [push_cast, seval, ↓reduceIte, hmm, hc1, undef]) | ((first | with_reducible refine hJ _ _ ?_ | (with_reducible refine hJ _ _ ?_ ?_; · kernel_rfl)); clear hJ hKC KC J) | ((with_reducible refine zG ?_ ?_); · rfl) | ((with_reducible refine zH ?_ ?_); · rfl)
   refine zE ?_
   simp (maxSteps := 9999999) only [push_cast, seval, ↓reduceIte, show Tryz.f49.results = #[(.tmp 8), (.tmp 9)] from rfl]
   exact Lq
  cases c2
  case false =>
   repeat' first | (with_reducible first | refine zA ?_ | refine zB ?_ | refine zb ?_ | refine zF ?_ | refine zJ ?_) | ((first | with_reducible refine zC fun KC J hJ hKC => ?_ | with_reducible refine zY rfl fun KC J hJ hKC => ?_ | (refine' hKC _ _ _ _ _ (zD (zCV) rfl rfl rfl ?_ ?_); (· exact Lq)) | (refine' hKC _ _ _ _ _ (zD (zCb) rfl rfl rfl ?_ ?_); (· exact Lq)) | (refine' hKC _ _ _ _ _ (zD (zBW) rfl rfl rfl ?_ ?_); (· exact Lq)) | (refine' hKC _ _ _ _ _ (zD (zBv _ _ _ _ _ _ _ _ _ ?_ ?_ ?_ ?_ ?_ ?_) rfl rfl rfl ?_ ?_); (rotate_left 15); (· exact Lq); (rotate_left 1); (iterate 6 (· exact Hq))) | (refine' hKC _ _ _ _ _ (zD (zCN _ _ _ _ _ _ _ _ _ ?_ ?_ ?_ ?_ ?_ ?_) rfl rfl rfl ?_ ?_); (rotate_left 15); (· exact Lq); (rotate_left 1); (iterate 6 (· exact Hq))) | (refine hKC _ _ _ _ _ (zD (l1) rfl rfl rfl ?_ ?_); (· exact Lq)) | (refine hKC _ _ _ _ _ (zD (l2) rfl rfl rfl ?_ ?_); (· exact Lq)) | (refine hKC _ _ _ _ _ (zD (l3) rfl rfl rfl ?_ ?_); (· exact Lq)) | (refine hKC _ _ _ _ _ (zD (hcc) rfl rfl rfl ?_ ?_); (· exact Lq)) | (refine hKC _ _ _ _ _ (zD (hmy) rfl rfl rfl ?_ ?_); (· exact Lq))); simp (maxSteps := 9999999) only [push_cast, seval, ↓reduceIte, hmm, hc1, hc2, undef]) | ((first | with_reducible refine hJ _ _ ?_ | (with_reducible refine hJ _ _ ?_ ?_; · kernel_rfl)); clear hJ hKC KC J) | ((with_reducible refine zG ?_ ?_); · rfl) | ((with_reducible refine zH ?_ ?_); · rfl)
   refine zE ?_
   simp (maxSteps := 9999999) only [push_cast, seval, ↓reduceIte, show Tryz.f49.results = #[(.tmp 8), (.tmp 9)] from rfl]
   exact Lq
  cases c3
  case false =>
   repeat' first | (with_reducible first | refine zA ?_ | refine zB ?_ | refine zb ?_ | refine zF ?_ | refine zJ ?_) | ((first | with_reducible refine zC fun KC J hJ hKC => ?_ | with_reducible refine zY rfl fun KC J hJ hKC => ?_ | (refine' hKC _ _ _ _ _ (zD (zCV) rfl rfl rfl ?_ ?_); (· exact Lq)) | (refine' hKC _ _ _ _ _ (zD (zCb) rfl rfl rfl ?_ ?_); (· exact Lq)) | (refine' hKC _ _ _ _ _ (zD (zBW) rfl rfl rfl ?_ ?_); (· exact Lq)) | (refine' hKC _ _ _ _ _ (zD (zBv _ _ _ _ _ _ _ _ _ ?_ ?_ ?_ ?_ ?_ ?_) rfl rfl rfl ?_ ?_); (rotate_left 15); (· exact Lq); (rotate_left 1); (iterate 6 (· exact Hq))) | (refine' hKC _ _ _ _ _ (zD (zCN _ _ _ _ _ _ _ _ _ ?_ ?_ ?_ ?_ ?_ ?_) rfl rfl rfl ?_ ?_); (rotate_left 15); (· exact Lq); (rotate_left 1); (iterate 6 (· exact Hq))) | (refine' hKC _ _ _ _ _ (zD (zEV _ _ _ _ _ _ _ _ _ ?_ ?_ ?_ ?_ ?_ ?_ ?_ ?_) rfl rfl rfl ?_ ?_); (rotate_left 17); (· exact Lq); (rotate_left 1); (iterate 8 (· exact Hq))) | (refine hKC _ _ _ _ _ (zD (l1) rfl rfl rfl ?_ ?_); (· exact Lq)) | (refine hKC _ _ _ _ _ (zD (l2) rfl rfl rfl ?_ ?_); (· exact Lq)) | (refine hKC _ _ _ _ _ (zD (l3) rfl rfl rfl ?_ ?_); (· exact Lq)) | (refine hKC _ _ _ _ _ (zD (hcc) rfl rfl rfl ?_ ?_); (· exact Lq)) | (refine hKC _ _ _ _ _ (zD (hmy) rfl rfl rfl ?_ ?_); (· exact Lq))); simp (maxSteps := 9999999) only [push_cast, seval, ↓reduceIte, hmm, hc1, hc2, hc3, undef]) | ((first | with_reducible refine hJ _ _ ?_ | (with_reducible refine hJ _ _ ?_ ?_; · kernel_rfl)); clear hJ hKC KC J) | ((with_reducible refine zG ?_ ?_); · rfl) | ((with_reducible refine zH ?_ ?_); · rfl)
   refine zE ?_
   simp (maxSteps := 9999999) only [push_cast, seval, ↓reduceIte, show Tryz.f49.results = #[(.tmp 8), (.tmp 9)] from rfl]
   exact Lq
  cases c4
  case false =>
   cases c5
   case true =>
    repeat' first | (with_reducible first | refine zA ?_ | refine zB ?_ | refine zb ?_ | refine zAC ?_ | refine zF ?_ | refine zJ ?_ | refine zI ?_) | ((first | with_reducible refine zC fun KC J hJ hKC => ?_ | with_reducible refine zY rfl fun KC J hJ hKC => ?_ | (refine' hKC _ _ _ _ _ (zD (zCV) rfl rfl rfl ?_ ?_); (· exact Lq)) | (refine' hKC _ _ _ _ _ (zD (zCb) rfl rfl rfl ?_ ?_); (· exact Lq)) | (refine' hKC _ _ _ _ _ (zD (zBW) rfl rfl rfl ?_ ?_); (· exact Lq)) | (refine' hKC _ _ _ _ _ (zD (zBv _ _ _ _ _ _ _ _ _ ?_ ?_ ?_ ?_ ?_ ?_) rfl rfl rfl ?_ ?_); (rotate_left 15); (· exact Lq); (rotate_left 1); (iterate 6 (· exact Hq))) | (refine' hKC _ _ _ _ _ (zD (zCN _ _ _ _ _ _ _ _ _ ?_ ?_ ?_ ?_ ?_ ?_) rfl rfl rfl ?_ ?_); (rotate_left 15); (· exact Lq); (rotate_left 1); (iterate 6 (· exact Hq))) | (refine' hKC _ _ _ _ _ (zD (zEV _ _ _ _ _ _ _ _ _ ?_ ?_ ?_ ?_ ?_ ?_ ?_ ?_) rfl rfl rfl ?_ ?_); (rotate_left 17); (· exact Lq); (rotate_left 1); (iterate 8 (· exact Hq))) | (refine' hKC _ _ _ _ _ (zD (zBO _ _ _ _ _ _ ?_ ?_ ?_ ?_ ?_) rfl rfl rfl ?_ ?_); (rotate_left 11); (· exact Lq); (rotate_left 1); (iterate 5 (· exact Hq))) | (refine hKC _ _ _ _ _ (zD (l1) rfl rfl rfl ?_ ?_); (· exact Lq)) | (refine hKC _ _ _ _ _ (zD (l2) rfl rfl rfl ?_ ?_); (· exact Lq)) | (refine hKC _ _ _ _ _ (zD (l3) rfl rfl rfl ?_ ?_); (· exact Lq)) | (refine hKC _ _ _ _ _ (zD (hcc) rfl rfl rfl ?_ ?_); (· exact Lq)) | (refine hKC _ _ _ _ _ (zD (hmy) rfl rfl rfl ?_ ?_); (· exact Lq))); simp (maxSteps := 9999999) only [push_cast, seval, ↓reduceIte, hmm, hc1, hc2, hc3, hc4, hc5, undef]) | ((first | with_reducible refine hJ _ _ ?_ | (with_reducible refine hJ _ _ ?_ ?_; · kernel_rfl)); clear hJ hKC KC J) | ((with_reducible refine zG ?_ ?_); · rfl) | ((with_reducible refine zH ?_ ?_); · rfl)
    refine zE ?_
    simp (maxSteps := 9999999) only [push_cast, seval, ↓reduceIte, show Tryz.f49.results = #[(.tmp 8), (.tmp 9)] from rfl]
    exact Lq
   repeat' first | (with_reducible first | refine zA ?_ | refine zB ?_ | refine zP ?_ | refine zF ?_ | refine zJ ?_ | refine zI ?_) | ((first | with_reducible refine zC fun KC J hJ hKC => ?_ | with_reducible refine zY rfl fun KC J hJ hKC => ?_ | (refine' hKC _ _ _ _ _ (zD (zCV) rfl rfl rfl ?_ ?_); (· exact Lq)) | (refine' hKC _ _ _ _ _ (zD (zCb) rfl rfl rfl ?_ ?_); (· exact Lq)) | (refine' hKC _ _ _ _ _ (zD (zBW) rfl rfl rfl ?_ ?_); (· exact Lq)) | (refine' hKC _ _ _ _ _ (zD (zBv _ _ _ _ _ _ _ _ _ ?_ ?_ ?_ ?_ ?_ ?_) rfl rfl rfl ?_ ?_); (rotate_left 15); (· exact Lq); (rotate_left 1); (iterate 6 (· exact Hq))) | (refine' hKC _ _ _ _ _ (zD (zCN _ _ _ _ _ _ _ _ _ ?_ ?_ ?_ ?_ ?_ ?_) rfl rfl rfl ?_ ?_); (rotate_left 15); (· exact Lq); (rotate_left 1); (iterate 6 (· exact Hq))) | (refine' hKC _ _ _ _ _ (zD (zEV _ _ _ _ _ _ _ _ _ ?_ ?_ ?_ ?_ ?_ ?_ ?_ ?_) rfl rfl rfl ?_ ?_); (rotate_left 17); (· exact Lq); (rotate_left 1); (iterate 8 (· exact Hq))) | (refine' hKC _ _ _ _ _ (zD (zBO _ _ _ _ _ _ ?_ ?_ ?_ ?_ ?_) rfl rfl rfl ?_ ?_); (rotate_left 11); (· exact Lq); (rotate_left 1); (iterate 5 (· exact Hq))) | (refine' hKC _ _ _ _ _ (zD (zHw _ _ _ _ _ _ _ ?_ ?_ ?_ ?_ ?_ ?_) rfl rfl rfl ?_ ?_); (rotate_left 13); (· exact Lq); (rotate_left 1); (iterate 6 (· exact Hq))) | (refine hKC _ _ _ _ _ (zD (l1) rfl rfl rfl ?_ ?_); (· exact Lq)) | (refine hKC _ _ _ _ _ (zD (l2) rfl rfl rfl ?_ ?_); (· exact Lq)) | (refine hKC _ _ _ _ _ (zD (l3) rfl rfl rfl ?_ ?_); (· exact Lq)) | (refine hKC _ _ _ _ _ (zD (hcc) rfl rfl rfl ?_ ?_); (· exact Lq)) | (refine hKC _ _ _ _ _ (zD (hmy) rfl rfl rfl ?_ ?_); (· exact Lq)) | (refine hKC _ _ _ _ _ (zD (f9) rfl rfl rfl ?_ ?_); (· exact Lq))); simp (maxSteps := 9999999) only [push_cast, seval, ↓reduceIte, hmm, hc1, hc2, hc3, hc4, hc5, undef]) | ((first | with_reducible refine hJ _ _ ?_ | (with_reducible refine hJ _ _ ?_ ?_; · kernel_rfl)); clear hJ hKC KC J) | ((with_reducible refine zH ?_ ?_); · rfl)
   refine zE ?_
   simp (maxSteps := 9999999) only [push_cast, seval, ↓reduceIte, show Tryz.f49.results = #[(.tmp 8), (.tmp 9)] from rfl]
   exact Lq
  cases c5
  case false =>
   repeat' first | (with_reducible first | refine zA ?_ | refine zB ?_ | refine zb ?_ | refine zAC ?_ | refine zF ?_ | refine zJ ?_ | refine zI ?_) | ((first | with_reducible refine zC fun KC J hJ hKC => ?_ | with_reducible refine zY rfl fun KC J hJ hKC => ?_ | (refine' hKC _ _ _ _ _ (zD (zCV) rfl rfl rfl ?_ ?_); (· exact Lq)) | (refine' hKC _ _ _ _ _ (zD (zCb) rfl rfl rfl ?_ ?_); (· exact Lq)) | (refine' hKC _ _ _ _ _ (zD (zBW) rfl rfl rfl ?_ ?_); (· exact Lq)) | (refine' hKC _ _ _ _ _ (zD (zBv _ _ _ _ _ _ _ _ _ ?_ ?_ ?_ ?_ ?_ ?_) rfl rfl rfl ?_ ?_); (rotate_left 15); (· exact Lq); (rotate_left 1); (iterate 6 (· exact Hq))) | (refine' hKC _ _ _ _ _ (zD (zCN _ _ _ _ _ _ _ _ _ ?_ ?_ ?_ ?_ ?_ ?_) rfl rfl rfl ?_ ?_); (rotate_left 15); (· exact Lq); (rotate_left 1); (iterate 6 (· exact Hq))) | (refine' hKC _ _ _ _ _ (zD (zEV _ _ _ _ _ _ _ _ _ ?_ ?_ ?_ ?_ ?_ ?_ ?_ ?_) rfl rfl rfl ?_ ?_); (rotate_left 17); (· exact Lq); (rotate_left 1); (iterate 8 (· exact Hq))) | (refine' hKC _ _ _ _ _ (zD (zBO _ _ _ _ _ _ ?_ ?_ ?_ ?_ ?_) rfl rfl rfl ?_ ?_); (rotate_left 11); (· exact Lq); (rotate_left 1); (iterate 5 (· exact Hq))) | (refine hKC _ _ _ _ _ (zD (l1) rfl rfl rfl ?_ ?_); (· exact Lq)) | (refine hKC _ _ _ _ _ (zD (l2) rfl rfl rfl ?_ ?_); (· exact Lq)) | (refine hKC _ _ _ _ _ (zD (l3) rfl rfl rfl ?_ ?_); (· exact Lq)) | (refine hKC _ _ _ _ _ (zD (hcc) rfl rfl rfl ?_ ?_); (· exact Lq)) | (refine hKC _ _ _ _ _ (zD (hmy) rfl rfl rfl ?_ ?_); (· exact Lq))); simp (maxSteps := 9999999) only [push_cast, seval, ↓reduceIte, hmm, hc1, hc2, hc3, hc4, hc5, undef]) | ((first | with_reducible refine hJ _ _ ?_ | (with_reducible refine hJ _ _ ?_ ?_; · kernel_rfl)); clear hJ hKC KC J) | ((with_reducible refine zG ?_ ?_); · rfl) | ((with_reducible refine zH ?_ ?_); · rfl)
   refine zE ?_
   simp (maxSteps := 9999999) only [push_cast, seval, ↓reduceIte, show Tryz.f49.results = #[(.tmp 8), (.tmp 9)] from rfl]
   exact Lq
  cases c6
  case false =>
   repeat' first | (with_reducible first | refine zA ?_ | refine zB ?_ | refine zb ?_ | refine zAC ?_ | refine zF ?_ | refine zJ ?_ | refine zI ?_) | ((first | with_reducible refine zC fun KC J hJ hKC => ?_ | with_reducible refine zY rfl fun KC J hJ hKC => ?_ | (refine' hKC _ _ _ _ _ (zD (zCV) rfl rfl rfl ?_ ?_); (· exact Lq)) | (refine' hKC _ _ _ _ _ (zD (zCb) rfl rfl rfl ?_ ?_); (· exact Lq)) | (refine' hKC _ _ _ _ _ (zD (zBW) rfl rfl rfl ?_ ?_); (· exact Lq)) | (refine' hKC _ _ _ _ _ (zD (zBv _ _ _ _ _ _ _ _ _ ?_ ?_ ?_ ?_ ?_ ?_) rfl rfl rfl ?_ ?_); (rotate_left 15); (· exact Lq); (rotate_left 1); (iterate 6 (· exact Hq))) | (refine' hKC _ _ _ _ _ (zD (zCN _ _ _ _ _ _ _ _ _ ?_ ?_ ?_ ?_ ?_ ?_) rfl rfl rfl ?_ ?_); (rotate_left 15); (· exact Lq); (rotate_left 1); (iterate 6 (· exact Hq))) | (refine' hKC _ _ _ _ _ (zD (zEV _ _ _ _ _ _ _ _ _ ?_ ?_ ?_ ?_ ?_ ?_ ?_ ?_) rfl rfl rfl ?_ ?_); (rotate_left 17); (· exact Lq); (rotate_left 1); (iterate 8 (· exact Hq))) | (refine' hKC _ _ _ _ _ (zD (zBO _ _ _ _ _ _ ?_ ?_ ?_ ?_ ?_) rfl rfl rfl ?_ ?_); (rotate_left 11); (· exact Lq); (rotate_left 1); (iterate 5 (· exact Hq))) | (refine hKC _ _ _ _ _ (zD (l1) rfl rfl rfl ?_ ?_); (· exact Lq)) | (refine hKC _ _ _ _ _ (zD (l2) rfl rfl rfl ?_ ?_); (· exact Lq)) | (refine hKC _ _ _ _ _ (zD (l3) rfl rfl rfl ?_ ?_); (· exact Lq)) | (refine hKC _ _ _ _ _ (zD (hcc) rfl rfl rfl ?_ ?_); (· exact Lq)) | (refine hKC _ _ _ _ _ (zD (hmy) rfl rfl rfl ?_ ?_); (· exact Lq))); simp (maxSteps := 9999999) only [push_cast, seval, ↓reduceIte, hmm, hc1, hc2, hc3, hc4, hc5, hc6, undef]) | ((first | with_reducible refine hJ _ _ ?_ | (with_reducible refine hJ _ _ ?_ ?_; · kernel_rfl)); clear hJ hKC KC J) | ((with_reducible refine zG ?_ ?_); · rfl) | ((with_reducible refine zH ?_ ?_); · rfl)
   refine zE ?_
   simp (maxSteps := 9999999) only [push_cast, seval, ↓reduceIte, show Tryz.f49.results = #[(.tmp 8), (.tmp 9)] from rfl]
   exact Lq
  repeat' first | (with_reducible first | refine zA ?_ | refine zB ?_ | refine zb ?_ | refine zAC ?_ | refine zF ?_ | refine zJ ?_ | refine zI ?_) | ((first | with_reducible refine zC fun KC J hJ hKC => ?_ | with_reducible refine zY rfl fun KC J hJ hKC => ?_ | (refine' hKC _ _ _ _ _ (zD (zCV) rfl rfl rfl ?_ ?_); (· exact Lq)) | (refine' hKC _ _ _ _ _ (zD (zCb) rfl rfl rfl ?_ ?_); (· exact Lq)) | (refine' hKC _ _ _ _ _ (zD (zBW) rfl rfl rfl ?_ ?_); (· exact Lq)) | (refine' hKC _ _ _ _ _ (zD (zBv _ _ _ _ _ _ _ _ _ ?_ ?_ ?_ ?_ ?_ ?_) rfl rfl rfl ?_ ?_); (rotate_left 15); (· exact Lq); (rotate_left 1); (iterate 6 (· exact Hq))) | (refine' hKC _ _ _ _ _ (zD (zCN _ _ _ _ _ _ _ _ _ ?_ ?_ ?_ ?_ ?_ ?_) rfl rfl rfl ?_ ?_); (rotate_left 15); (· exact Lq); (rotate_left 1); (iterate 6 (· exact Hq))) | (refine' hKC _ _ _ _ _ (zD (zEV _ _ _ _ _ _ _ _ _ ?_ ?_ ?_ ?_ ?_ ?_ ?_ ?_) rfl rfl rfl ?_ ?_); (rotate_left 17); (· exact Lq); (rotate_left 1); (iterate 8 (· exact Hq))) | (refine' hKC _ _ _ _ _ (zD (zBO _ _ _ _ _ _ ?_ ?_ ?_ ?_ ?_) rfl rfl rfl ?_ ?_); (rotate_left 11); (· exact Lq); (rotate_left 1); (iterate 5 (· exact Hq))) | (refine' hKC _ _ _ _ _ (zD (zGw _ _ _ _ _ _ _ _ _ ?_ ?_ ?_ ?_ ?_ ?_) rfl rfl rfl ?_ ?_); (rotate_left 15); (· exact Lq); (rotate_left 1); (iterate 6 (· exact Hq))) | (refine hKC _ _ _ _ _ (zD (l1) rfl rfl rfl ?_ ?_); (· exact Lq)) | (refine hKC _ _ _ _ _ (zD (l2) rfl rfl rfl ?_ ?_); (· exact Lq)) | (refine hKC _ _ _ _ _ (zD (l3) rfl rfl rfl ?_ ?_); (· exact Lq)) | (refine hKC _ _ _ _ _ (zD (hcc) rfl rfl rfl ?_ ?_); (· exact Lq)) | (refine hKC _ _ _ _ _ (zD (hmy) rfl rfl rfl ?_ ?_); (· exact Lq))); simp (maxSteps := 9999999) only [push_cast, seval, ↓reduceIte, hmm, hc1, hc2, hc3, hc4, hc5, hc6, undef]) | ((first | with_reducible refine hJ _ _ ?_ | (with_reducible refine hJ _ _ ?_ ?_; · kernel_rfl)); clear hJ hKC KC J) | ((with_reducible refine zG ?_ ?_); · rfl) | ((with_reducible refine zH ?_ ?_); · rfl)
  refine zE ?_
  simp (maxSteps := 9999999) only [push_cast, seval, ↓reduceIte, show Tryz.f49.results = #[(.tmp 8), (.tmp 9)] from rfl]
  exact Lq
 ·have hz : (m != 0) = true := by simpa using h0
  rw [decide_eq_false h0, Bool.false_and]
  refine Fn.of (fn := Tryz.f49) (by kernel_rfl) rfl (by kernel_rfl) ⟨[.agg [.sl false 1 (zS ns), .sl false 1 (zQ us)], .v (.int .i64 o), .agg (zAO false false false false a), .agg (zAO false false false false b), .v undef, .v undef, .v undef, .v undef, .v undef, .v undef, .v undef, .v undef, .v undef, .v undef, .v undef, .v undef, .v undef, .v undef, .v undef, .v undef, .v undef, .v undef, .v undef, .v undef, .v undef, .v undef, .v undef, .v undef, .v undef, .v undef, .v undef, .v undef, .v undef, .v undef, .v undef, .v undef, .v undef, .v undef, .v undef, .v undef, .v undef, .v undef, .v undef, .v undef, .v undef, .v undef, .v undef, .v undef, .v undef, .v undef, .v undef, .v undef, .v undef, .v undef, .v undef, .v undef, .v undef, .v undef, .v undef, .v undef, .v undef, .v undef, .v undef, .v undef, .v undef, .v undef, .v undef, .v undef, .v undef, .v undef, .v undef, .v undef, .v undef, .v undef, .v undef, .v undef, .v undef, .v undef, .v undef, .v undef, .v undef, .v undef, .v undef, .v undef, .v undef, .v undef, .v undef, .v undef, .v undef, .v undef, .v undef, .v undef, .v undef, .v undef, .v undef, .v undef, .v undef, .v undef, .v undef, .v undef, .v undef, .v undef, .v undef, .v undef, .v undef, .v undef, .v undef, .v undef, .v undef, .v undef, .v undef, .v undef, .v undef, .v undef, .v undef, .v undef, .v undef, .v undef, .v undef, .v undef, .v undef, .v undef, .v undef, .v undef, .v undef, .v undef, .v undef], []⟩ rfl ?_
  simp only [zAO]
  repeat' first | (with_reducible first | refine zA ?_ | refine zB ?_ | refine zb ?_ | refine zF ?_) | ((first | with_reducible refine zC fun KC J hJ hKC => ?_ | with_reducible refine zY rfl fun KC J hJ hKC => ?_ | (refine' hKC _ _ _ _ _ (zD (zCV) rfl rfl rfl ?_ ?_); (· exact Lq)) | (refine' hKC _ _ _ _ _ (zD (zCb) rfl rfl rfl ?_ ?_); (· exact Lq)) | (refine' hKC _ _ _ _ _ (zD (zBW) rfl rfl rfl ?_ ?_); (· exact Lq)) | (refine hKC _ _ _ _ _ (zD (l1) rfl rfl rfl ?_ ?_); (· exact Lq)) | (refine hKC _ _ _ _ _ (zD (l2) rfl rfl rfl ?_ ?_); (· exact Lq)) | (refine hKC _ _ _ _ _ (zD (l3) rfl rfl rfl ?_ ?_); (· exact Lq)) | (refine hKC _ _ _ _ _ (zD (hcc) rfl rfl rfl ?_ ?_); (· exact Lq)) | (refine hKC _ _ _ _ _ (zD (hmy) rfl rfl rfl ?_ ?_); (· exact Lq))); simp (maxSteps := 9999999) only [push_cast, seval, ↓reduceIte, hmm, hz]) | ((first | with_reducible refine hJ _ _ ?_ | (with_reducible refine hJ _ _ ?_ ?_; · kernel_rfl)); clear hJ hKC KC J) | ((with_reducible refine zG ?_ ?_); · rfl)
  refine zE ?_
  simp (maxSteps := 9999999) only [push_cast, seval, ↓reduceIte, show Tryz.f49.results = #[(.tmp 8), (.tmp 9)] from rfl]
  exact Lq
section
namespace Cp
variable {α β : Type}
def map (f : α → Cp α) : List α → Cp (List α)
 | [] => .ret []
 | x :: xs => (f x).bind fun y => (map f xs).bind fun ys => .ret (y :: ys)
theorem map_snoc (f : α → Cp α) (l : List α) (x : α) : map f (l ++ [x]) = (map f l).bind fun ys => (f x).bind fun y => .ret (ys ++ [y]) := by
 induction l with
 | nil => simp only [List.nil_append, map, bind]
 | cons a l ih => simp only [List.cons_append, map, ih, zNH, bind]
def Each (p : α → α → Prop) : List α → List α → Prop
 | [], [] => True
 | x :: xs, y :: ys => p x y ∧ Each p xs ys
 | _, _ => False
theorem Each.length {p : α → α → Prop} : ∀ {xs ys : List α}, Each p xs ys → xs.length = ys.length
 | [], [], _ => rfl
 | _ :: _, _ :: _, h => by simp [Each.length h.2]
theorem Each.mem {p : α → α → Prop} : ∀ {xs ys : List α}, Each p xs ys → ∀ y ∈ ys, ∃ x ∈ xs, p x y
 | [], [], _, y, hy => by cases hy
 | x :: xs, z :: ys, h, y, hy => by
  rcases List.mem_cons.1 hy with rfl | hy
  ·exact ⟨x, List.mem_cons_self, h.1⟩
  ·obtain ⟨w, hw, hp⟩ := Each.mem h.2 y hy
   exact ⟨w, List.mem_cons_of_mem _ hw, hp⟩
theorem deep_map {n : Nat} {f : α → Cp α} (hf : ∀ x, Deep n (f x)) : ∀ l : List α, Deep (l.length * n) (map f l)
 | [] => by cases (0 : Nat) * n <;> trivial
 | x :: xs => by
  rw [List.length_cons, Nat.succ_mul, Nat.add_comm]
  exact deep_bind _ _ (hf x) (all_true _) fun y _ => deep_bind (m := 0) _ _ (deep_map hf xs) (all_true _) fun ys _ => trivial
end Cp
def zAB {α : Type} (f : α → M3 → M3 × α) (l : List α) (m : M3) : M3 × List α := l.foldl (fun r x => ((f x r.1).1, r.2 ++ [(f x r.1).2])) (m, [])
theorem zKK {α : Type} (f : α → M3 → M3 × α) (l : List α) (x : α) (m : M3) : zAB f (l ++ [x]) m = ((f x (zAB f l m).1).1, (zAB f l m).2 ++ [(f x (zAB f l m).1).2]) := by
 unfold zAB; rw [List.foldl_append]; rfl
theorem zDO {α : Type} (f : α → M3 → M3 × α) {l : List α} {i : Nat} {x : α} (h : l[i]? = some x) (m : M3) : zAB f (l.take (i + 1)) m = ((f x (zAB f (l.take i) m).1).1, (zAB f (l.take i) m).2 ++ [(f x (zAB f (l.take i) m).1).2]) := by
 obtain ⟨hi, rfl⟩ := List.getElem?_eq_some_iff.1 h
 rw [List.take_succ_eq_append_getElem hi, zKK]
theorem zAl {α : Type} (f : α → M3 → M3 × α) (m : M3) (l : List α) : (zAB f l m).2.length = l.length := by
 have : ∀ (l : List α) (r : M3 × List α), (l.foldl (fun r x => ((f x r.1).1, r.2 ++ [(f x r.1).2])) r).2.length = r.2.length + l.length := by
  intro l
  induction l with
  | nil => intro r; simp
  | cons x l ih => intro r; rw [List.foldl_cons, ih]; simp; omega
 unfold zAB; rw [this]; simp
theorem zGt {α : Type} {f : α → M3 → M3 × α} {c : α → Cp α} (h : ∀ x, Is (f x) (c x)) (l : List α) : Is (zAB f l) (Cp.map c l) := by
 have : ∀ (n : Nat) (l : List α), l.length = n → Is (zAB f l) (Cp.map c l) := fun n => by
  induction n with
  | zero => intro l hl; rw [List.length_eq_zero_iff.1 hl]; exact .ret []
  | succ n ih =>
   intro l hl
   have hne : l ≠ [] := fun h => by rw [h] at hl; cases hl
   have he := List.dropLast_concat_getLast hne
   rw [← he, Cp.map_snoc]
   have h0 := ih l.dropLast (by rw [List.length_dropLast]; omega)
   exact (Is.bind h0 (g := fun ys m => ((f (l.getLast hne) m).1, ys ++ [(f (l.getLast hne) m).2])) fun ys => Is.bind (h (l.getLast hne)) (g := fun y m => (m, ys ++ [y])) fun y => .ret _).ext fun m => (zKK _ _ _ _).symm
 exact this _ l rfl
def hid (us : List Nat) (o : Nat) (l : Int) : Bool := !fl us l.toNat o
def vIC (sp : Sp) (us : List Nat) (o : Nat) (x : Int × Int × Int) : Cp (Int × Int × Int) := if x.1 = 1 ∧ hid us o x.2.2 = true then (zFp sp.val).bind fun v => .ret (x.1, v, x.2.2) else .ret x
def vAC (sp : Sp) (us : List Nat) (o : Nat) (x : Int × Int) : Cp (Int × Int) := if hid us o x.2 = true then (zFp sp.val).bind fun v => .ret (v, x.2) else .ret x
def vVC (sp : Sp) (r : Bool) : Cp Int := if r = true then zCR 13 else zFp sp.val
def vSC (sp : Sp) (us : List Nat) (o : Nat) (x : Bool × Int × Int) : Cp (Bool × Int × Int) := if hid us o x.2.2 = true then (vVC sp x.1).bind fun v => .ret (x.1, v, x.2.2) else .ret x
def v1C (sp : Sp) (us : List Nat) (o : Nat) : Cp (Bool × Int × Int) := (zCR 2).bind fun r => (zCR us.length).bind fun l => (vVC sp (decide (r = 1) && hid us o l)).bind fun v => .ret (decide (r = 1) && hid us o l, v, l)
def zMh (sp : Sp) (us : List Nat) (o : Nat) (k : List (Bool × Int × Int)) : Cp (List (Bool × Int × Int)) := (zCR (sp.stack - k.length + 1)).bind fun n => ((v1C sp us o).times n.toNat).bind fun t => .ret (k ++ t)
def zh (us : List Nat) (o : Nat) : List Int := ((List.range us.length).map (fun a : Nat => (a : Int))).filter (hid us o)
def zEg (sp : Sp) (us : List Nat) (o : Nat) (s : Sta) : Cp Sta :=
 (Cp.map (vIC sp us o) s.code).bind fun c => (Cp.map (vAC sp us o) s.mem).bind fun m =>
  if hid us o s.l = true then
   (Cp.map (vSC sp us o) (zu us o s.stack)).bind fun k => (zMh sp us o k).bind fun t => (zCR 13).bind fun v => (zCR (zh us o).length).bind fun n => .ret ⟨v, (zh us o).getD n.toNat 0, c, m, t, s.out⟩
  else (Cp.map (vSC sp us o) s.stack).bind fun k => .ret ⟨s.v, s.l, c, m, k, s.out⟩
end
structure VQ where
 f : Bool
 g : Bool
 ns : List ByteArray
 us : List Nat
 sp : Sp
 o : Nat
structure VOk (q : VQ) : Prop where
 szs : Szs q.ns
 u32 : U32 q.us
 chk : zAA q.ns q.us = 0
 lab : q.o < q.us.length
abbrev mkV (q : VQ) (d : Dr) (e : Int) : Ent := ⟨0, none, 247, [.sl q.f 1 (zS q.ns), .sl q.g 1 (zQ q.us), .v (.int .i64 q.sp.code), .v (.int .i64 q.sp.mem), .v (.int .i64 q.sp.stack), .v (.int .i64 q.sp.val), .sl false 1 (zM q.sp.ws), .v (.int .i64 (q.o : Int)), .sl false 1 (zM d.l), .v (.int .i64 d.a), .sl false 1 (zM d.g), .v (.int .i64 e)], .cells⟩
theorem zMu (q : VQ) (d : Dr) (n e : Int) (t : M3) :
  Fn Tryz.prog 289 [.ptr 0 0 0, zBC false false t.1, .v (.int .i64 t.2.1), .v (.int .i64 t.2.2)] [.ent (mkV q d e)] (.v (.int .i64 (zBz (d, n, e) t).2.1)) [.ent (mkV q (zBz (d, n, e) t).1 (zBz (d, n, e) t).2.2)] := by
 obtain ⟨td, tn, te⟩ := t
 simp only [zBz, zBC, mkV]
 refine Fn.of (fn := Tryz.f289) (by kernel_rfl) rfl (by kernel_rfl) ⟨[.ptr 0 0 0, .agg [.sl false 1 (zM td.l), .v (.int .i64 td.a), .sl false 1 (zM td.g)], .v (.int .i64 tn), .v (.int .i64 te), .v undef, .v undef, .v undef, .v undef, .v undef, .v undef, .v undef, .v undef, .v undef, .v undef, .v undef, .v undef, .v undef, .v undef, .v undef, .v undef, .v undef, .v undef, .v undef, .v undef, .v undef, .v undef, .v undef, .v undef], [.ent (mkV q d e)]⟩ rfl ?_
 simp only [mkV]
 by_cases h1 : e = 0
 ·subst h1
  by_cases h2 : te = 0
  ·subst h2
   repeat' first | (with_reducible first | refine zA ?_ | refine zB ?_ | refine zF ?_ | refine zJ ?_) | ((with_reducible refine zC fun KC J hJ hKC => ?_); simp (maxSteps := 9999999) only [push_cast, seval, ↓reduceIte, beq_self_eq_true, bne_self_eq_false]) | ((with_reducible refine hJ _ _ ?_); clear hJ hKC KC J) | ((with_reducible refine zG ?_ ?_); · rfl) | ((with_reducible refine zH ?_ ?_); · rfl)
   refine zd ?_
   simp (maxSteps := 9999999) only [push_cast, seval, ↓reduceIte, show Tryz.f289.results = #[(.tmp 8)] from rfl]
   exact ⟨rfl, zK _⟩
  ·have h2' : (te != 0) = true := by simpa using h2
   rw [if_pos rfl, if_neg h2]
   repeat' first | (with_reducible first | refine zA ?_ | refine zB ?_ | refine zb ?_ | refine zF ?_) | ((with_reducible refine zC fun KC J hJ hKC => ?_); simp (maxSteps := 9999999) only [push_cast, seval, ↓reduceIte, beq_self_eq_true, h2']) | ((with_reducible refine hJ _ _ ?_); clear hJ hKC KC J) | ((with_reducible refine zG ?_ ?_); · rfl)
   refine zd ?_
   simp (maxSteps := 9999999) only [push_cast, seval, ↓reduceIte, show Tryz.f289.results = #[(.tmp 8)] from rfl]
   exact ⟨rfl, zK _⟩
 ·have h1' : (e != 0) = true := by simpa using h1
  have h1'' : (e == 0) = false := by simpa using h1
  rw [if_neg h1]
  repeat' first | (with_reducible first | refine zA ?_ | refine zB ?_ | refine zb ?_ | refine zF ?_ | refine zJ ?_) | ((with_reducible refine zC fun KC J hJ hKC => ?_); simp (maxSteps := 9999999) only [push_cast, seval, ↓reduceIte, h1', h1'']) | ((with_reducible refine hJ _ _ ?_); clear hJ hKC KC J) | ((with_reducible refine zG ?_ ?_); · rfl) | ((with_reducible refine zH ?_ ?_); · rfl)
  refine zd ?_
  simp (maxSteps := 9999999) only [push_cast, seval, ↓reduceIte, show Tryz.f289.results = #[(.tmp 8)] from rfl]
  exact ⟨rfl, zK _⟩
theorem zCo (q : VQ) (d : Dr) (n e b : Int) (hB : b ≤ 9223372036854775807) :
  Fn Tryz.prog 291 [.ptr 0 0 0, .v (.int .i64 b)] [.ent (mkV q d e)] (.v (.int .i64 (zR (d, n, e) b).2.1)) [.ent (mkV q (zR (d, n, e) b).1 (zR (d, n, e) b).2.2)] := by
 have ht := zGH false false d.l d.g d.a b hB
 have hk := zMu q d n e (zAP d b)
 simp only [zR]
 obtain ⟨t, hT⟩ : ∃ t, zAP d b = t := ⟨_, rfl⟩
 obtain ⟨m, hM⟩ : ∃ m, zBz (d, n, e) t = m := ⟨_, rfl⟩
 rw [show (⟨d.l, d.a, d.g⟩ : Dr) = d from rfl, hT] at ht
 rw [hT, hM] at hk
 rw [hT, hM]
 refine Fn.of (fn := Tryz.f291) (by kernel_rfl) rfl (by kernel_rfl) ⟨[.ptr 0 0 0, .v (.int .i64 b), .v undef, .v undef, .v undef, .v undef, .v undef, .v undef, .v undef, .v undef, .v undef, .v undef, .v undef, .v undef, .v undef, .v undef], [.ent (mkV q d e)]⟩ rfl ?_
 simp only [mkV]
 repeat' first | (with_reducible first | refine zA ?_ | refine zB ?_ | refine zF ?_) | ((first | with_reducible refine zC fun KC J hJ hKC => ?_ | (refine hKC _ _ _ _ _ (zT [0] hk rfl rfl rfl (by decide) (by simp) rfl rfl Lq ?_)) | (refine hKC _ _ _ _ _ (zD (ht) rfl rfl rfl ?_ ?_); (· exact Lq))); simp (maxSteps := 9999999) only [push_cast, seval, ↓reduceIte, zBC, hT, hM, zX, zN, zL, pick, mOf, idx, ren, ren2, ren1, ren0]) | ((with_reducible refine hJ _ _ ?_); clear hJ hKC KC J)
 refine zd ?_
 simp (maxSteps := 9999999) only [push_cast, seval, ↓reduceIte, show Tryz.f291.results = #[(.tmp 4)] from rfl]
 exact ⟨rfl, zK _⟩
theorem zDb (q : VQ) (d : Dr) (n e : Int) :
  Fn Tryz.prog 262 [.ptr 0 0 0] [.ent (mkV q d e)] (.v (.int .i64 (zAL (d, n, e) q.sp.val).2.1)) [.ent (mkV q (zAL (d, n, e) q.sp.val).1 (zAL (d, n, e) q.sp.val).2.2)] := by
 have ht := zHD false false d.l d.g d.a q.sp.val
 have hk := zMu q d n e (zBt d q.sp.val)
 simp only [zAL]
 obtain ⟨t, hT⟩ : ∃ t, zBt d q.sp.val = t := ⟨_, rfl⟩
 obtain ⟨m, hM⟩ : ∃ m, zBz (d, n, e) t = m := ⟨_, rfl⟩
 rw [show (⟨d.l, d.a, d.g⟩ : Dr) = d from rfl, hT] at ht
 rw [hT, hM] at hk
 rw [hT, hM]
 refine Fn.of (fn := Tryz.f262) (by kernel_rfl) rfl (by kernel_rfl) ⟨[.ptr 0 0 0, .v undef, .v undef, .v undef, .v undef, .v undef, .v undef, .v undef, .v undef, .v undef, .v undef, .v undef, .v undef, .v undef, .v undef, .v undef, .v undef, .v undef], [.ent (mkV q d e)]⟩ rfl ?_
 simp only [mkV]
 repeat' first | (with_reducible first | refine zA ?_ | refine zB ?_ | refine zF ?_) | ((first | with_reducible refine zC fun KC J hJ hKC => ?_ | with_reducible refine zY rfl fun KC J hJ hKC => ?_ | (refine hKC _ _ _ _ _ (zT [0] hk rfl rfl rfl (by decide) (by simp) rfl rfl Lq ?_)) | (refine hKC _ _ _ _ _ (zD (ht) rfl rfl rfl ?_ ?_); (· exact Lq))); simp (maxSteps := 9999999) only [push_cast, seval, ↓reduceIte, zBC, hT, hM, zX, zN, zL, pick, mOf, idx, ren, ren2, ren1, ren0]) | ((first | with_reducible refine hJ _ _ ?_ | (with_reducible refine hJ _ _ ?_ ?_; · kernel_rfl)); clear hJ hKC KC J)
 refine zd ?_
 simp (maxSteps := 9999999) only [push_cast, seval, ↓reduceIte, show Tryz.f262.results = #[(.tmp 2)] from rfl]
 exact ⟨rfl, zK _⟩
theorem zBx (q : VQ) (d : Dr) (n e : Int) :
  Fn Tryz.prog 265 [.ptr 0 0 0] [.ent (mkV q d e)] (.v (.int .i64 (zR (d, n, e) 13).2.1)) [.ent (mkV q (zR (d, n, e) 13).1 (zR (d, n, e) 13).2.2)] := by
 have hk := zCo q d n e 13 (by omega)
 obtain ⟨m, hM⟩ : ∃ m, zR (d, n, e) 13 = m := ⟨_, rfl⟩
 rw [hM] at hk
 rw [hM]
 refine Fn.of (fn := Tryz.f265) (by kernel_rfl) rfl (by kernel_rfl) ⟨[.ptr 0 0 0, .v undef, .v undef, .v undef, .v undef], [.ent (mkV q d e)]⟩ rfl ?_
 simp only [mkV]
 repeat' first | (with_reducible first | refine zA ?_ | refine zB ?_ | refine zF ?_) | ((first | with_reducible refine zC fun KC J hJ hKC => ?_ | (refine hKC _ _ _ _ _ (zT [0] hk rfl rfl rfl (by decide) (by simp) rfl rfl Lq ?_))); simp (maxSteps := 9999999) only [push_cast, seval, ↓reduceIte, zX, zN, zL, pick, mOf, idx, ren, ren2, ren1, ren0]) | ((with_reducible refine hJ _ _ ?_); clear hJ hKC KC J)
 refine zd ?_
 simp (maxSteps := 9999999) only [push_cast, seval, ↓reduceIte, show Tryz.f265.results = #[(.tmp 2)] from rfl]
 exact ⟨rfl, zK _⟩
def zBa (q : VQ) (r : Bool) (m : M3) : M3 := if r = true then zR m 13 else zAL m q.sp.val
theorem zCl (q : VQ) (d : Dr) (n e : Int) (r : Bool) :
  Fn Tryz.prog 290 [.ptr 0 0 0, .v (.bool r)] [.ent (mkV q d e)] (.v (.int .i64 (zBa q r (d, n, e)).2.1)) [.ent (mkV q (zBa q r (d, n, e)).1 (zBa q r (d, n, e)).2.2)] := by
 unfold zBa
 cases r
 case true =>
  have hk := zBx q d n e
  rw [if_pos rfl]
  obtain ⟨m, hM⟩ : ∃ m, zR (d, n, e) 13 = m := ⟨_, rfl⟩
  rw [hM] at hk
  rw [hM]
  refine Fn.of (fn := Tryz.f290) (by kernel_rfl) rfl (by kernel_rfl) ⟨[.ptr 0 0 0, .v (.bool true), .v undef, .v undef, .v undef, .v undef, .v undef, .v undef, .v undef, .v undef], [.ent (mkV q d e)]⟩ rfl ?_
  simp only [mkV]
  repeat' first | (with_reducible first | refine zA ?_ | refine zB ?_ | refine zb ?_ | refine zF ?_) | ((first | with_reducible refine zC fun KC J hJ hKC => ?_ | (refine hKC _ _ _ _ _ (zT [0] hk rfl rfl rfl (by decide) (by simp) rfl rfl Lq ?_))); simp (maxSteps := 9999999) only [push_cast, seval, ↓reduceIte, zX, zN, zL, pick, mOf, idx, ren, ren2, ren1, ren0]) | ((with_reducible refine hJ _ _ ?_); clear hJ hKC KC J) | ((with_reducible refine zG ?_ ?_); · rfl)
  refine zd ?_
  simp (maxSteps := 9999999) only [push_cast, seval, ↓reduceIte, show Tryz.f290.results = #[(.tmp 4)] from rfl]
  exact ⟨rfl, zK _⟩
 case false =>
  have hk := zDb q d n e
  rw [if_neg (by simp)]
  obtain ⟨m, hM⟩ : ∃ m, zAL (d, n, e) q.sp.val = m := ⟨_, rfl⟩
  rw [hM] at hk
  rw [hM]
  refine Fn.of (fn := Tryz.f290) (by kernel_rfl) rfl (by kernel_rfl) ⟨[.ptr 0 0 0, .v (.bool false), .v undef, .v undef, .v undef, .v undef, .v undef, .v undef, .v undef, .v undef], [.ent (mkV q d e)]⟩ rfl ?_
  simp only [mkV]
  repeat' first | (with_reducible first | refine zA ?_ | refine zB ?_ | refine zF ?_ | refine zJ ?_) | ((first | with_reducible refine zC fun KC J hJ hKC => ?_ | (refine hKC _ _ _ _ _ (zT [0] hk rfl rfl rfl (by decide) (by simp) rfl rfl Lq ?_))); simp (maxSteps := 9999999) only [push_cast, seval, ↓reduceIte, zX, zN, zL, pick, mOf, idx, ren, ren2, ren1, ren0]) | ((with_reducible refine hJ _ _ ?_); clear hJ hKC KC J) | ((with_reducible refine zH ?_ ?_); · rfl)
  refine zd ?_
  simp (maxSteps := 9999999) only [push_cast, seval, ↓reduceIte, show Tryz.f290.results = #[(.tmp 4)] from rfl]
  exact ⟨rfl, zK _⟩
theorem zAw (q : VQ) (hq : VOk q) (d : Dr) (e a : Int) (ha : zx q.us.length a = false) :
  Fn Tryz.prog 261 [.ptr 0 0 0, .v (.int .i64 a)] [.ent (mkV q d e)] (.v (.bool (hid q.us q.o a))) [.ent (mkV q d e)] := by
 obtain ⟨b, rfl, hb⟩ := zBU ha
 have hf := zHH q.f q.g q.ns q.us b q.o hq.szs hq.u32 hq.chk hb hq.lab
 unfold hid
 rw [Int.toNat_natCast]
 refine Fn.of (fn := Tryz.f261) (by kernel_rfl) rfl (by kernel_rfl) ⟨[.ptr 0 0 0, .v (.int .i64 (b : Int)), .v undef, .v undef, .v undef, .v undef, .v undef, .v undef, .v undef, .v undef, .v undef, .v undef, .v undef, .v undef, .v undef, .v undef, .v undef, .v undef, .v undef, .v undef, .v undef, .v undef], [.ent (mkV q d e)]⟩ rfl ?_
 simp only [mkV]
 repeat' first | (with_reducible first | refine zA ?_ | refine zB ?_ | refine zF ?_) | ((first | with_reducible refine zC fun KC J hJ hKC => ?_ | with_reducible refine zY rfl fun KC J hJ hKC => ?_ | (refine hKC _ _ _ _ _ (zD (hf) rfl rfl rfl ?_ ?_); (· exact Lq))); simp (maxSteps := 9999999) only [push_cast, seval, ↓reduceIte]) | ((first | with_reducible refine hJ _ _ ?_ | (with_reducible refine hJ _ _ ?_ ?_; · kernel_rfl)); clear hJ hKC KC J)
 refine zd ?_
 simp (maxSteps := 9999999) only [push_cast, seval, ↓reduceIte, show Tryz.f261.results = #[(.tmp 4)] from rfl]
 exact ⟨rfl, zK _⟩
def vSP (q : VQ) (x : Bool × Int × Int) (m : M3) : M3 × (Bool × Int × Int) := if hid q.us q.o x.2.2 = true then (zBa q x.1 m, (x.1, (zBa q x.1 m).2.1, x.2.2)) else (m, x)
def mW {α : Type} (f : α → M3 → M3 × α) (l : List α) (m : M3) (i : Nat) : List α := (zAB f (l.take i) m).2 ++ l.drop i
theorem zEI {α : Type} (f : α → M3 → M3 × α) (l : List α) (m : M3) (i : Nat) : (mW f l m i).length = l.length := by
 unfold mW; rw [List.length_append, zAl, List.length_take, List.length_drop]; omega
theorem zIL {α : Type} {f : α → M3 → M3 × α} {l : List α} {m : M3} {i : Nat} {x : α} (h : l[i]? = some x) : (mW f l m i)[i]? = some x := by
 have hi := (List.getElem?_eq_some_iff.1 h).1
 unfold mW
 rw [List.getElem?_append_right (by rw [zAl, List.length_take]; omega), zAl, List.length_take, List.getElem?_drop, show i + (i - min i l.length) = i by omega, h]
theorem zGl {α : Type} {f : α → M3 → M3 × α} {l : List α} {m : M3} {i : Nat} {x : α} (h : l[i]? = some x) : mW f l m (i + 1) = (mW f l m i).set i (f x (zAB f (l.take i) m).1).2 := by
 obtain ⟨hi, rfl⟩ := List.getElem?_eq_some_iff.1 h
 unfold mW
 have hl : (zAB f (l.take i) m).2.length = i := by rw [zAl, List.length_take]; omega
 rw [zDO f h, List.drop_eq_getElem_cons hi, List.set_append_right _ _ (by omega), hl, Nat.sub_self, List.set_cons_zero, List.append_assoc]
 rfl
theorem zJE {α : Type} {f : α → M3 → M3 × α} {l : List α} {m : M3} {n : Nat} (h : l.length = n) : mW f l m n = (zAB f l m).2 := by
 subst h; unfold mW; rw [List.take_length, List.drop_length, List.append_nil]
theorem zGb {α : Type} (f : α → M3 → M3 × α) (l : List α) (m : M3) : mW f l m 0 = l := by
 unfold mW; rw [List.take_zero, List.drop_zero]; rfl
theorem zCO (q : VQ) (hq : VOk q) (d : Dr) (n0 e : Int) (fl : Bool) (l : List (Bool × Int × Int)) (h0 : 0 < l.length) (hl : l.length ≤ 1000) (hL : ∀ x ∈ l, zx q.us.length x.2.2 = false) :
  Fn Tryz.prog 263 [.ptr 0 0 0, .sl fl 3 (zg l), .bnd 261 [.ptr 0 0 0]] [.ent (mkV q d e)] (.ref 1 0 l.length) [.ent (mkV q (zAB (vSP q) l (d, n0, e)).1.1 (zAB (vSP q) l (d, n0, e)).1.2.2), .ent ⟨0, some 3, 104, zj (zAB (vSP q) l (d, n0, e)).2, .cells⟩] := by
 have hcl := zUS fl l h0 (by omega)
 obtain ⟨n, hn⟩ : ∃ n, l.length = n := ⟨_, rfl⟩
 rw [hn] at hcl ⊢
 refine Fn.of (fn := Tryz.f263) (by kernel_rfl) rfl (by kernel_rfl) ⟨[.ptr 0 0 0, .sl fl 3 (zg l), .bnd 261 [.ptr 0 0 0], .v undef, .v undef, .v undef, .v undef, .v undef, .v undef, .v undef, .v undef, .v undef, .v undef, .v undef, .v undef, .v undef, .v undef, .v undef, .v undef, .v undef, .v undef, .v undef, .v undef, .v undef, .v undef, .v undef, .v undef, .v undef, .v undef, .v undef, .v undef, .v undef], [.ent (mkV q d e)]⟩ rfl ?_
 simp only [mkV]
 repeat' first | (with_reducible first | refine zA ?_ | refine zB ?_ | refine zI ?_) | ((first | with_reducible refine zC fun KC J hJ hKC => ?_ | (refine hKC _ _ _ _ _ (zBb [] hcl rfl rfl rfl (by simp) (fun _ h => by cases h) rfl rfl rfl Lq ?_))); simp (maxSteps := 9999999) only [push_cast, seval, ↓reduceIte, hn, zX, zN, zL, pick, mOf, idx, zW]) | ((with_reducible refine hJ _ _ ?_); clear hJ hKC KC J)
 refine zw 2 (γ := {i : Nat // i ≤ n}) (fun i => ⟨[.ptr 0 0 0, .ref 1 0 n, .bnd 261 [.ptr 0 0 0], .any, .any, .any, .any, .any, .any, .any, .any, .ref 1 0 n, .v (.int .i64 n), .v (.int .i64 i.1), .any, .any, .any, .any, .any, .any, .any, .any, .any, .any, .any, .any, .any, .any, .any, .any, .any, .any], [.ent (mkV q (zAB (vSP q) (l.take i.1) (d, n0, e)).1.1 (zAB (vSP q) (l.take i.1) (d, n0, e)).1.2.2), .ent ⟨0, some 3, 104, zj (mW (vSP q) l (d, n0, e) i.1), .cells⟩]⟩) (fun i => n - i.1) ⟨0, by omega⟩ (fun i => rfl) (fun i => ?_) (fun i => rfl) ⟨?_, ?_⟩ ?_
 ·refine zAF ?_
  simp only [mkV, List.map_cons, List.map_nil, zL, zW]
  rfl
 ·exact Lq
 ·simp only [zGb, List.take_zero, mkV]
  exact Fq
 rintro ⟨i, hi⟩
 dsimp only
 have hwl : (zj (mW (vSP q) l (d, n0, e) i)).length = n * 3 := by rw [zy, zEI, hn]
 by_cases hlt : (i : Int) < (n : Int)
 ·have hx : l[i]? = some l[i] := List.getElem?_eq_getElem (by omega)
  obtain ⟨x, hxx⟩ : ∃ x, l[i] = x := ⟨_, rfl⟩
  rw [hxx] at hx
  have hxw := zIL (f := vSP q) (m := (d, n0, e)) hx
  have hws := zGl (f := vSP q) (m := (d, n0, e)) hx
  have hms := zDO (vSP q) hx (d, n0, e)
  have hat := zPT hxw
  have hlab := hL x (List.mem_of_getElem? hx)
  obtain ⟨⟨d1, n1, e1⟩, hM⟩ : ∃ m, (zAB (vSP q) (l.take i) (d, n0, e)).1 = m := ⟨_, rfl⟩
  rw [hM] at hws hms ⊢
  obtain ⟨r, v, a⟩ := x
  simp only at hat hlab
  have hh := zAw q hq d1 e1 a hlab
  obtain ⟨b, hb⟩ : ∃ b, hid q.us q.o a = b := ⟨_, rfl⟩
  rw [hb] at hh
  obtain ⟨W, hW⟩ : ∃ W, mW (vSP q) l (d, n0, e) i = W := ⟨_, rfl⟩
  rw [hW] at hxw hws hat hwl ⊢
  cases b
  case false =>
   have hv : vSP q (r, v, a) (d1, n1, e1) = ((d1, n1, e1), (r, v, a)) := by unfold vSP; rw [if_neg (by rw [hb]; simp)]
   rw [hv] at hws hms
   have hsm : W.set i (r, v, a) = W := by
    obtain ⟨h1, h2⟩ := List.getElem?_eq_some_iff.1 hxw
    rw [← h2]; exact List.set_getElem_self h1
   rw [hsm] at hws
   simp only [mkV] at hh ⊢
   repeat' first | (with_reducible first | refine zA ?_ | refine zB ?_ | refine zP ?_ | refine zJ ?_ | refine zI ?_) | ((with_reducible refine And.intro ?_ ?_); · exact Sq) | ((first | with_reducible refine zC fun KC J hJ hKC => ?_ | (refine hKC _ _ _ _ _ (zDm [0] hh rfl rfl rfl (by decide) (by simp) rfl rfl Lq ?_))); simp (maxSteps := 9999999) only [push_cast, seval, ↓reduceIte, hlt, hat, hwl, zX, zN, zL, pick, mOf, idx, ren, ren2, ren1, ren0, zW, zp (i := i) (n := n) (by omega) (by omega)]) | ((with_reducible refine hJ _ _ ?_); clear hJ hKC KC J) | ((with_reducible refine zG ?_ ?_); · rfl) | ((with_reducible refine zH ?_ ?_); · rfl)
   refine ⟨⟨i + 1, by omega⟩, by simp only; omega, ?_, ?_⟩
   ·exact Lq
   ·simp only [hms, hws, mkV]; exact ⟨_, rfl⟩
  case true =>
   have hval := zCl q d1 n1 e1 r
   obtain ⟨⟨d2, n2, e2⟩, hM2⟩ : ∃ m, zBa q r (d1, n1, e1) = m := ⟨_, rfl⟩
   rw [hM2] at hval
   have hv : vSP q (r, v, a) (d1, n1, e1) = ((d2, n2, e2), (r, n2, a)) := by
    unfold vSP; rw [if_pos hb]; simp only [hM2]
   rw [hv] at hws hms
   have hset := zSo n2 hxw
   rw [← hws] at hset
   obtain ⟨W', hW'⟩ : ∃ W', mW (vSP q) l (d, n0, e) (i + 1) = W' := ⟨_, rfl⟩
   rw [hW'] at hset
   simp only [mkV] at hh hval ⊢
   repeat' first | (with_reducible first | refine zA ?_ | refine zB ?_ | refine zP ?_ | refine zJ ?_ | refine zI ?_) | ((with_reducible refine And.intro ?_ ?_); · exact Sq) | ((first | with_reducible refine zC fun KC J hJ hKC => ?_ | (refine hKC _ _ _ _ _ (zDm [0] hh rfl rfl rfl (by decide) (by simp) rfl rfl Lq ?_)) | (refine hKC _ _ _ _ _ (zT [0] hval rfl rfl rfl (by decide) (by simp) rfl rfl Lq ?_))); simp (maxSteps := 9999999) only [push_cast, seval, ↓reduceIte, hlt, hat, hwl, hset, zX, zN, zL, pick, mOf, idx, ren, ren2, ren1, ren0, zW, zp (i := i) (n := n) (by omega) (by omega)]) | ((with_reducible refine hJ _ _ ?_); clear hJ hKC KC J) | ((with_reducible refine zG ?_ ?_); · rfl)
   refine ⟨⟨i + 1, by omega⟩, by simp only; omega, ?_, ?_⟩
   ·exact Lq
   ·simp only [hms, hW', mkV]; exact ⟨_, rfl⟩
 ·have hin : i = n := by omega
  subst hin
  have hend := zJE (f := vSP q) (m := (d, n0, e)) hn
  have htk : l.take i = l := by rw [← hn]; exact List.take_length
  rw [hend, htk]
  repeat' first | (with_reducible first | refine zA ?_ | refine zB ?_ | refine zm ?_ | refine zl ?_ | refine zZ ?_) | ((with_reducible refine zC fun KC J hJ hKC => ?_); simp (maxSteps := 9999999) only [push_cast, seval, ↓reduceIte, hlt]) | ((with_reducible refine hJ _ _ ?_); clear hJ hKC KC J) | ((with_reducible refine zH ?_ ?_); · rfl)
  refine zF ?_
  refine zCv [0, 1] ?_ (by decide) ?_
  ·simp (maxSteps := 9999999) only [push_cast, seval, ↓reduceIte, show Tryz.f263.results = #[.tmp 6] from rfl, pick, mOf, idx, zL, zW]
   exact zK _
  ·intro k hk
   have : k = 0 := by simpa using hk
   subst this; rfl
theorem zBr (q : VQ) (d : Dr) (e : Int) (fl : Bool) : Fn Tryz.prog 263 [.ptr 0 0 0, .sl fl 3 [], .bnd 261 [.ptr 0 0 0]] [.ent (mkV q d e)] (.sl true 3 []) [.ent (mkV q d e)] := by
 have hcl := zSY fl
 refine Fn.of (fn := Tryz.f263) (by kernel_rfl) rfl (by kernel_rfl) ⟨[.ptr 0 0 0, .sl fl 3 [], .bnd 261 [.ptr 0 0 0], .v undef, .v undef, .v undef, .v undef, .v undef, .v undef, .v undef, .v undef, .v undef, .v undef, .v undef, .v undef, .v undef, .v undef, .v undef, .v undef, .v undef, .v undef, .v undef, .v undef, .v undef, .v undef, .v undef, .v undef, .v undef, .v undef, .v undef, .v undef, .v undef], [.ent (mkV q d e)]⟩ rfl ?_
 simp only [mkV]
 repeat' first | (with_reducible first | refine zA ?_ | refine zB ?_ | refine zI ?_) | ((first | with_reducible refine zC fun KC J hJ hKC => ?_ | (refine hKC _ _ _ _ _ (zD (hcl) rfl rfl rfl ?_ ?_); (· exact Lq))); simp (maxSteps := 9999999) only [push_cast, seval, ↓reduceIte]) | ((with_reducible refine hJ _ _ ?_); clear hJ hKC KC J)
 refine zw 1 (γ := Unit) (fun _ => ⟨[.any, .sl true 3 [], .any, .any, .any, .any, .any, .any, .any, .any, .any, .any, .v (.int .i64 0), .v (.int .i64 0), .any, .any, .any, .any, .any, .any, .any, .any, .any, .any, .any, .any, .any, .any, .any, .any, .any, .any], [.ent (mkV q d e)]⟩) (fun _ => 0) () (fun k => rfl) (fun k => rfl) (fun k => rfl) ⟨?_, ?_⟩ ?_
 ·exact Lq
 ·simp only [mkV]
  exact Fq
 intro _
 simp only [mkV]
 repeat' first | (with_reducible first | refine zA ?_ | refine zB ?_ | refine zm ?_ | refine zl ?_ | refine zF ?_ | refine zZ ?_) | ((with_reducible refine zC fun KC J hJ hKC => ?_); simp (maxSteps := 9999999) only [push_cast, seval, ↓reduceIte]) | ((with_reducible refine hJ _ _ ?_); clear hJ hKC KC J) | ((with_reducible refine zH ?_ ?_); · rfl)
 refine zd ?_
 simp (maxSteps := 9999999) only [push_cast, seval, ↓reduceIte, show Tryz.f263.results = #[(.tmp 6)] from rfl]
 exact ⟨rfl, zK _⟩
def WeakU (σu s t : List Slot) : Prop := ∃ ks : List Nat, ks.Nodup ∧ (∀ k g, zBg σu k g → ks[k]? = some k) ∧ leS (pick ks s) t
section
variable {P : Program} {ro : Option Nat} {st : St} {K : Exit → St → Prop}
theorem zOB {γ : Type} {c : Code} (inv : γ → St) (m : γ → Nat) (g0 : γ)
  (round : ∀ g, AWP P ro c (inv g) (zFI (fun s' => ∃ g', m g' < m g ∧ zNA (inv g0).σ.length s' (inv g')) K)) : AWP P ro (.loop c) (inv g0) K := fun B a w hr Q hQ => by
 intro b k cs hro hb hrm
 have hlt := hr.used_lt
 have key : ∀ j g a w, m g = j → Rel B (inv g) a w →
   ∃ e a' w', Q e a' w' ∧ ArrivesIn (Machine.fenced P (FW ro)) P (lone (b.atR a (.code c :: .inLoop c :: k)) cs w) b k cs e a' w' := by
  intro j
  induction j using Nat.strongRecOn with
  | _ j ih =>
   intro g a w hj hrel
   have hw := round g B a w hrel (fun e a' w' => (e = .normal ∧ ∃ g', m g' < m g ∧ Rel B (inv g') a' w') ∨ (e ≠ .normal ∧ Q e a' w')) (fun e st' a' w' hK hr' => by
    cases e with
    | normal => obtain ⟨g', hg, hI'⟩ := hK; exact .inl ⟨rfl, g', hg, hr'.weak hI' hlt⟩
    | exit id => exact .inr ⟨by simp, hQ _ _ _ _ hK hr'⟩
    | goto l => exact .inr ⟨by simp, hQ _ _ _ _ hK hr'⟩
    | ret => exact .inr ⟨by simp, hQ _ _ _ _ hK hr'⟩
    | panic c => exact .inr ⟨by simp, hQ _ _ _ _ hK hr'⟩
    | outgrown => exact .inr ⟨by simp, hQ _ _ _ _ hK hr'⟩)
   obtain ⟨e, a₁, w₁, hq, harr⟩ := hw b (.inLoop c :: k) cs hro hb hrm
   rcases hq with ⟨rfl, g', hg, hr'⟩ | ⟨hne, hq⟩
   ·obtain ⟨e₂, a₂, w₂, hq₂, harr₂⟩ := ih (m g') (hj ▸ hg) g' a₁ w₁ rfl hr'
    exact ⟨e₂, a₂, w₂, hq₂, .of_steps (StepsIn.trans harr (.one (fenced_calm hb hrm rfl) stepR_inLoop)) harr₂⟩
   ·exact ⟨e, a₁, w₁, hq, .pass (x := .inLoop c) rfl (fun _ _ => .inl hne) harr⟩
 obtain ⟨e, a', w', hq, harr⟩ := key _ g0 a w rfl hr
 exact ⟨e, a', w', hq, .of_steps (.one (fenced_calm hb hrm rfl) stepR_loop) harr⟩
theorem zHB {γ : Type} {c : Code} (n : Nat) (inv : γ → St) (m : γ → Nat) (g0 : γ) (hn : (inv g0).σ.length = n) (h0 : leF st.fr (inv g0).fr ∧ ∃ k, st.σ = (inv g0).σ ++ List.replicate k .free)
  (round : ∀ g, AWP P ro c (inv g) (zFI (fun s' => ∃ g', m g' < m g ∧ zNA n s' (inv g')) K)) : AWP P ro (.loop c) st K := by
 subst hn
 exact zLZ (inv g0) h0.1 h0.2 (zOB inv m g0 round)
end
section
variable {P : Program} {ro : Option Nat} {st : St} {K : Exit → St → Prop} {ops : Array Oper} {dr : Bool} {c c2 : Code}
end
theorem WeakU.of {σu s t : List Slot} {n : Nat} (hl : σu.length = n) (h : zHS n s t) : WeakU σu s t := by
 obtain ⟨ks, h1, h2, h3⟩ := h
 refine ⟨ks, h1, fun k g hu => h2 k ?_, h3⟩
 obtain ⟨x, hx, _⟩ := hu
 rw [← hl]; exact (List.getElem?_eq_some_iff.1 hx).1
abbrev mkE (nl : Int) (sp : Sp) (d : Dr) (e : Int) : Ent := ⟨0, none, 179, [.v (.int .i64 nl), .v (.int .i64 sp.code), .v (.int .i64 sp.mem), .v (.int .i64 sp.stack), .v (.int .i64 sp.val), .sl false 1 (zM sp.ws), .sl false 1 (zM d.l), .v (.int .i64 d.a), .sl false 1 (zM d.g), .v (.int .i64 e)], .cells⟩
theorem zLC (nl : Int) (sp : Sp) (d : Dr) (n e : Int) (t : M3) :
  Fn (Tryz.prog) 273 [.ptr 0 0 0, zBC false false t.1, .v (.int .i64 t.2.1), .v (.int .i64 t.2.2)] [.ent (mkE nl sp d e)] (.v (.int .i64 (zBz (d, n, e) t).2.1)) [.ent (mkE nl sp (zBz (d, n, e) t).1 (zBz (d, n, e) t).2.2)] := by
 obtain ⟨td, tn, te⟩ := t
 simp only [zBz, zBC, mkE]
 refine Fn.of (fn := Tryz.f273) (by kernel_rfl) rfl (by kernel_rfl) ⟨[.ptr 0 0 0, .agg [.sl false 1 (zM td.l), .v (.int .i64 td.a), .sl false 1 (zM td.g)], .v (.int .i64 tn), .v (.int .i64 te), .v undef, .v undef, .v undef, .v undef, .v undef, .v undef, .v undef, .v undef, .v undef, .v undef, .v undef, .v undef, .v undef, .v undef, .v undef, .v undef, .v undef, .v undef, .v undef, .v undef, .v undef, .v undef, .v undef, .v undef], [.ent (mkE nl sp d e)]⟩ rfl ?_
 simp only [mkE]
 by_cases h1 : e = 0
 ·subst h1
  by_cases h2 : te = 0
  ·subst h2
   repeat' first | (with_reducible first | refine zA ?_ | refine zB ?_ | refine zF ?_ | refine zJ ?_) | ((with_reducible refine zC fun KC J hJ hKC => ?_); simp (maxSteps := 9999999) only [push_cast, seval, ↓reduceIte, beq_self_eq_true, bne_self_eq_false]) | ((with_reducible refine hJ _ _ ?_); clear hJ hKC KC J) | ((with_reducible refine zG ?_ ?_); · rfl) | ((with_reducible refine zH ?_ ?_); · rfl)
   refine zd ?_
   simp (maxSteps := 9999999) only [push_cast, seval, ↓reduceIte, show Tryz.f273.results = #[(.tmp 8)] from rfl]
   exact ⟨rfl, zK _⟩
  ·have h2' : (te != 0) = true := by simpa using h2
   rw [if_pos rfl, if_neg h2]
   repeat' first | (with_reducible first | refine zA ?_ | refine zB ?_ | refine zb ?_ | refine zF ?_) | ((with_reducible refine zC fun KC J hJ hKC => ?_); simp (maxSteps := 9999999) only [push_cast, seval, ↓reduceIte, beq_self_eq_true, h2']) | ((with_reducible refine hJ _ _ ?_); clear hJ hKC KC J) | ((with_reducible refine zG ?_ ?_); · rfl)
   refine zd ?_
   simp (maxSteps := 9999999) only [push_cast, seval, ↓reduceIte, show Tryz.f273.results = #[(.tmp 8)] from rfl]
   exact ⟨rfl, zK _⟩
 ·have h1' : (e != 0) = true := by simpa using h1
  have h1'' : (e == 0) = false := by simpa using h1
  rw [if_neg h1]
  repeat' first | (with_reducible first | refine zA ?_ | refine zB ?_ | refine zb ?_ | refine zF ?_ | refine zJ ?_) | ((with_reducible refine zC fun KC J hJ hKC => ?_); simp (maxSteps := 9999999) only [push_cast, seval, ↓reduceIte, h1', h1'']) | ((with_reducible refine hJ _ _ ?_); clear hJ hKC KC J) | ((with_reducible refine zG ?_ ?_); · rfl) | ((with_reducible refine zH ?_ ?_); · rfl)
  refine zd ?_
  simp (maxSteps := 9999999) only [push_cast, seval, ↓reduceIte, show Tryz.f273.results = #[(.tmp 8)] from rfl]
  exact ⟨rfl, zK _⟩
theorem zCw (nl : Int) (sp : Sp) (d : Dr) (n e b : Int) (hB : b ≤ 9223372036854775807) :
  Fn (Tryz.prog) 221 [.ptr 0 0 0, .v (.int .i64 b)] [.ent (mkE nl sp d e)] (.v (.int .i64 (zR (d, n, e) b).2.1)) [.ent (mkE nl sp (zR (d, n, e) b).1 (zR (d, n, e) b).2.2)] := by
 have ht := zGH false false d.l d.g d.a b hB
 have hk := zLC nl sp d n e (zAP d b)
 simp only [zR]
 obtain ⟨t, hT⟩ : ∃ t, zAP d b = t := ⟨_, rfl⟩
 obtain ⟨m, hM⟩ : ∃ m, zBz (d, n, e) t = m := ⟨_, rfl⟩
 rw [show (⟨d.l, d.a, d.g⟩ : Dr) = d from rfl, hT] at ht
 rw [hT, hM] at hk
 rw [hT, hM]
 refine Fn.of (fn := Tryz.f221) (by kernel_rfl) rfl (by kernel_rfl) ⟨[.ptr 0 0 0, .v (.int .i64 b), .v undef, .v undef, .v undef, .v undef, .v undef, .v undef, .v undef, .v undef, .v undef, .v undef, .v undef, .v undef, .v undef, .v undef], [.ent (mkE nl sp d e)]⟩ rfl ?_
 simp only [mkE]
 repeat' first | (with_reducible first | refine zA ?_ | refine zB ?_ | refine zF ?_) | ((first | with_reducible refine zC fun KC J hJ hKC => ?_ | (refine' hKC _ _ _ _ _ (zD (zGH _ _ _ _ _ _ ?_) rfl rfl rfl ?_ ?_); (rotate_left 7); (· exact Lq); (rotate_left 1); (iterate 1 (· exact Hq))) | (refine hKC _ _ _ _ _ (zT [0] hk rfl rfl rfl (by decide) (by simp) rfl rfl Lq ?_))); simp (maxSteps := 9999999) only [push_cast, seval, ↓reduceIte, zBC, hT, hM, zX, zN, zL, pick, mOf, idx, ren, ren2, ren1, ren0]) | ((with_reducible refine hJ _ _ ?_); clear hJ hKC KC J)
 refine zd ?_
 simp (maxSteps := 9999999) only [push_cast, seval, ↓reduceIte, show Tryz.f221.results = #[(.tmp 4)] from rfl]
 exact ⟨rfl, zK _⟩
theorem zHN (nl : Int) (sp : Sp) (d : Dr) (n e : Int) :
  Fn (Tryz.prog) 223 [.ptr 0 0 0] [.ent (mkE nl sp d e)] (.v (.int .i64 (zAL (d, n, e) sp.val).2.1)) [.ent (mkE nl sp (zAL (d, n, e) sp.val).1 (zAL (d, n, e) sp.val).2.2)] := by
 have ht := zHD false false d.l d.g d.a sp.val
 have hk := zLC nl sp d n e (zBt d sp.val)
 simp only [zAL]
 obtain ⟨t, hT⟩ : ∃ t, zBt d sp.val = t := ⟨_, rfl⟩
 obtain ⟨m, hM⟩ : ∃ m, zBz (d, n, e) t = m := ⟨_, rfl⟩
 rw [show (⟨d.l, d.a, d.g⟩ : Dr) = d from rfl, hT] at ht
 rw [hT, hM] at hk
 rw [hT, hM]
 refine Fn.of (fn := Tryz.f223) (by kernel_rfl) rfl (by kernel_rfl) ⟨[.ptr 0 0 0, .v undef, .v undef, .v undef, .v undef, .v undef, .v undef, .v undef, .v undef, .v undef, .v undef, .v undef, .v undef, .v undef, .v undef, .v undef, .v undef, .v undef], [.ent (mkE nl sp d e)]⟩ rfl ?_
 simp only [mkE]
 repeat' first | (with_reducible first | refine zA ?_ | refine zB ?_ | refine zF ?_) | ((first | with_reducible refine zC fun KC J hJ hKC => ?_ | with_reducible refine zY rfl fun KC J hJ hKC => ?_ | (refine' hKC _ _ _ _ _ (zD (zHD _ _ _ _ _ _) rfl rfl rfl ?_ ?_); (rotate_left 6); (· exact Lq)) | (refine hKC _ _ _ _ _ (zT [0] hk rfl rfl rfl (by decide) (by simp) rfl rfl Lq ?_))); simp (maxSteps := 9999999) only [push_cast, seval, ↓reduceIte, zBC, hT, hM, zX, zN, zL, pick, mOf, idx, ren, ren2, ren1, ren0]) | ((first | with_reducible refine hJ _ _ ?_ | (with_reducible refine hJ _ _ ?_ ?_; · kernel_rfl)); clear hJ hKC KC J)
 refine zd ?_
 simp (maxSteps := 9999999) only [push_cast, seval, ↓reduceIte, show Tryz.f223.results = #[(.tmp 2)] from rfl]
 exact ⟨rfl, zK _⟩
theorem zUq (nl : Int) (sp : Sp) (d : Dr) (n e : Int) (hw : sp.ws.length ≤ 9223372036854775807) :
  Fn (Tryz.prog) 222 [.ptr 0 0 0] [.ent (mkE nl sp d e)] (.v (.int .i64 (opP (d, n, e) sp.ws).2.1)) [.ent (mkE nl sp (opP (d, n, e) sp.ws).1 (opP (d, n, e) sp.ws).2.2)] := by
 have ht := zFA false false false d.l d.g sp.ws d.a hw
 have hk := zLC nl sp d n e (zBP d sp.ws)
 simp only [opP]
 obtain ⟨t, hT⟩ : ∃ t, zBP d sp.ws = t := ⟨_, rfl⟩
 obtain ⟨m, hM⟩ : ∃ m, zBz (d, n, e) t = m := ⟨_, rfl⟩
 rw [show (⟨d.l, d.a, d.g⟩ : Dr) = d from rfl, hT] at ht
 rw [hT, hM] at hk
 rw [hT, hM]
 refine Fn.of (fn := Tryz.f222) (by kernel_rfl) rfl (by kernel_rfl) ⟨[.ptr 0 0 0, .v undef, .v undef, .v undef, .v undef, .v undef, .v undef, .v undef, .v undef, .v undef, .v undef, .v undef, .v undef, .v undef, .v undef, .v undef, .v undef, .v undef], [.ent (mkE nl sp d e)]⟩ rfl ?_
 simp only [mkE]
 repeat' first | (with_reducible first | refine zA ?_ | refine zB ?_ | refine zF ?_) | ((first | with_reducible refine zC fun KC J hJ hKC => ?_ | with_reducible refine zY rfl fun KC J hJ hKC => ?_ | (refine' hKC _ _ _ _ _ (zD (zFA _ _ _ _ _ _ _ ?_) rfl rfl rfl ?_ ?_); (rotate_left 8); (· exact Lq); (rotate_left 1); (iterate 1 (· exact Hq))) | (refine hKC _ _ _ _ _ (zT [0] hk rfl rfl rfl (by decide) (by simp) rfl rfl Lq ?_))); simp (maxSteps := 9999999) only [push_cast, seval, ↓reduceIte, zBC, hT, hM, zX, zN, zL, pick, mOf, idx, ren, ren2, ren1, ren0]) | ((first | with_reducible refine hJ _ _ ?_ | (with_reducible refine hJ _ _ ?_ ?_; · kernel_rfl)); clear hJ hKC KC J)
 refine zd ?_
 simp (maxSteps := 9999999) only [push_cast, seval, ↓reduceIte, show Tryz.f222.results = #[(.tmp 2)] from rfl]
 exact ⟨rfl, zK _⟩
theorem zIu (nl : Int) (sp : Sp) (d : Dr) (n e : Int) :
  Fn (Tryz.prog) 125 [.ptr 0 0 0] [.ent (mkE nl sp d e)] (.v (.int .i64 (zR (d, n, e) 13).2.1)) [.ent (mkE nl sp (zR (d, n, e) 13).1 (zR (d, n, e) 13).2.2)] := by
 have hk := zCw nl sp d n e 13 (by omega)
 obtain ⟨m, hM⟩ : ∃ m, zR (d, n, e) 13 = m := ⟨_, rfl⟩
 rw [hM] at hk
 rw [hM]
 refine Fn.of (fn := Tryz.f125) (by kernel_rfl) rfl (by kernel_rfl) ⟨[.ptr 0 0 0, .v undef, .v undef, .v undef, .v undef], [.ent (mkE nl sp d e)]⟩ rfl ?_
 simp only [mkE]
 repeat' first | (with_reducible first | refine zA ?_ | refine zB ?_ | refine zF ?_) | ((first | with_reducible refine zC fun KC J hJ hKC => ?_ | (refine hKC _ _ _ _ _ (zT [0] hk rfl rfl rfl (by decide) (by simp) rfl rfl Lq ?_))); simp (maxSteps := 9999999) only [push_cast, seval, ↓reduceIte, zX, zN, zL, pick, mOf, idx, ren, ren2, ren1, ren0]) | ((with_reducible refine hJ _ _ ?_); clear hJ hKC KC J)
 refine zd ?_
 simp (maxSteps := 9999999) only [push_cast, seval, ↓reduceIte, show Tryz.f125.results = #[(.tmp 2)] from rfl]
 exact ⟨rfl, zK _⟩
theorem zEy (nl : Int) (sp : Sp) (d : Dr) (n e : Int) (hn : nl ≤ 9223372036854775807) :
  Fn (Tryz.prog) 126 [.ptr 0 0 0] [.ent (mkE nl sp d e)] (.v (.int .i64 (zR (d, n, e) nl).2.1)) [.ent (mkE nl sp (zR (d, n, e) nl).1 (zR (d, n, e) nl).2.2)] := by
 have hk := zCw nl sp d n e nl hn
 obtain ⟨m, hM⟩ : ∃ m, zR (d, n, e) nl = m := ⟨_, rfl⟩
 rw [hM] at hk
 rw [hM]
 refine Fn.of (fn := Tryz.f126) (by kernel_rfl) rfl (by kernel_rfl) ⟨[.ptr 0 0 0, .v undef, .v undef, .v undef, .v undef, .v undef, .v undef, .v undef, .v undef], [.ent (mkE nl sp d e)]⟩ rfl ?_
 simp only [mkE]
 repeat' first | (with_reducible first | refine zA ?_ | refine zB ?_ | refine zF ?_) | ((first | with_reducible refine zC fun KC J hJ hKC => ?_ | (refine hKC _ _ _ _ _ (zT [0] hk rfl rfl rfl (by decide) (by simp) rfl rfl Lq ?_))); simp (maxSteps := 9999999) only [push_cast, seval, ↓reduceIte, zX, zN, zL, pick, mOf, idx, ren, ren2, ren1, ren0]) | ((with_reducible refine hJ _ _ ?_); clear hJ hKC KC J)
 refine zd ?_
 simp (maxSteps := 9999999) only [push_cast, seval, ↓reduceIte, show Tryz.f126.results = #[(.tmp 2)] from rfl]
 exact ⟨rfl, zK _⟩
theorem zSf (nl : Int) (sp : Sp) (d : Dr) (n e : Int) (hn : nl ≤ 9223372036854775807) :
  Fn (Tryz.prog) 122 [.ptr 0 0 0] [.ent (mkE nl sp d e)] (.agg [.v (.int .i64 (zDz nl sp (d, n, e)).2.1), .v (.int .i64 (zDz nl sp (d, n, e)).2.2)]) [.ent (mkE nl sp (zDz nl sp (d, n, e)).1.1 (zDz nl sp (d, n, e)).1.2.2)] := by
 have h1 := zHN nl sp d n e
 simp only [zDz]
 obtain ⟨⟨d1, n1, e1⟩, hM⟩ : ∃ m, zAL (d, n, e) sp.val = m := ⟨_, rfl⟩
 rw [hM] at h1
 rw [hM]
 have h2 := zEy nl sp d1 n1 e1 hn
 obtain ⟨⟨d2, n2, e2⟩, hM2⟩ : ∃ m, zR (d1, n1, e1) nl = m := ⟨_, rfl⟩
 rw [hM2] at h2
 rw [hM2]
 simp only at h1 h2 ⊢
 refine Fn.of (fn := Tryz.f122) (by kernel_rfl) rfl (by kernel_rfl) ⟨[.ptr 0 0 0, .v undef, .v undef, .v undef, .v undef, .v undef, .v undef, .v undef, .v undef, .v undef], [.ent (mkE nl sp d e)]⟩ rfl ?_
 simp only [mkE]
 repeat' first | (with_reducible first | refine zA ?_ | refine zB ?_ | refine zF ?_) | ((first | with_reducible refine zC fun KC J hJ hKC => ?_ | (refine hKC _ _ _ _ _ (zT [0] h1 rfl rfl rfl (by decide) (by simp) rfl rfl Lq ?_)) | (refine hKC _ _ _ _ _ (zT [0] h2 rfl rfl rfl (by decide) (by simp) rfl rfl Lq ?_))); simp (maxSteps := 9999999) only [push_cast, seval, ↓reduceIte, zX, zN, zL, pick, mOf, idx, ren, ren2, ren1, ren0]) | ((with_reducible refine hJ _ _ ?_); clear hJ hKC KC J)
 refine zd ?_
 simp (maxSteps := 9999999) only [push_cast, seval, ↓reduceIte, show Tryz.f122.results = #[(.cell 2 34)] from rfl]
 exact ⟨rfl, zK _⟩
theorem zTA (nl : Int) (sp : Sp) (d : Dr) (n e : Int) (hn : nl ≤ 9223372036854775807) :
  Fn (Tryz.prog) 124 [.ptr 0 0 0] [.ent (mkE nl sp d e)] (.agg [.v (.bool (zDi nl sp (d, n, e)).2.1), .v (.int .i64 (zDi nl sp (d, n, e)).2.2.1), .v (.int .i64 (zDi nl sp (d, n, e)).2.2.2)]) [.ent (mkE nl sp (zDi nl sp (d, n, e)).1.1 (zDi nl sp (d, n, e)).1.2.2)] := by
 have h1 := zCw nl sp d n e 2 (by omega)
 simp only [zDi]
 obtain ⟨⟨d1, n1, e1⟩, hM⟩ : ∃ m, zR (d, n, e) 2 = m := ⟨_, rfl⟩
 rw [hM] at h1
 rw [hM]
 simp only at h1 ⊢
 by_cases hr : n1 = 1
 ·have hr' : (n1 == 1) = true := by simpa using hr
  rw [if_pos hr]
  have h3 := zIu nl sp d1 n1 e1
  obtain ⟨⟨d2, n2, e2⟩, hM2⟩ : ∃ m, zR (d1, n1, e1) 13 = m := ⟨_, rfl⟩
  rw [hM2] at h3
  rw [hM2]
  have h2 := zEy nl sp d2 n2 e2 hn
  obtain ⟨⟨d3, n3, e3⟩, hM3⟩ : ∃ m, zR (d2, n2, e2) nl = m := ⟨_, rfl⟩
  rw [hM3] at h2
  rw [hM3, decide_eq_true hr]
  simp only at h1 h2 h3 ⊢
  refine Fn.of (fn := Tryz.f124) (by kernel_rfl) rfl (by kernel_rfl) ⟨[.ptr 0 0 0, .v undef, .v undef, .v undef, .v undef, .v undef, .v undef, .v undef, .v undef, .v undef, .v undef, .v undef, .v undef, .v undef, .v undef, .v undef, .v undef, .v undef, .v undef, .v undef], [.ent (mkE nl sp d e)]⟩ rfl ?_
  simp only [mkE]
  repeat' first | (with_reducible first | refine zA ?_ | refine zB ?_ | refine zF ?_) | ((first | with_reducible refine zC fun KC J hJ hKC => ?_ | (refine hKC _ _ _ _ _ (zT [0] h1 rfl rfl rfl (by decide) (by simp) rfl rfl Lq ?_)) | (refine hKC _ _ _ _ _ (zT [0] h3 rfl rfl rfl (by decide) (by simp) rfl rfl Lq ?_)) | (refine hKC _ _ _ _ _ (zT [0] h2 rfl rfl rfl (by decide) (by simp) rfl rfl Lq ?_))); simp (maxSteps := 9999999) only [push_cast, seval, ↓reduceIte, hr', zX, zN, zL, pick, mOf, idx, ren, ren2, ren1, ren0]) | ((with_reducible refine hJ _ _ ?_); clear hJ hKC KC J) | ((with_reducible refine zG ?_ ?_); · rfl)
  refine zd ?_
  simp (maxSteps := 9999999) only [push_cast, seval, ↓reduceIte, show Tryz.f124.results = #[(.cell 2 104)] from rfl]
  exact ⟨rfl, zK _⟩
 ·have hr' : (n1 == 1) = false := by simpa using hr
  rw [if_neg hr]
  have h3 := zHN nl sp d1 n1 e1
  obtain ⟨⟨d2, n2, e2⟩, hM2⟩ : ∃ m, zAL (d1, n1, e1) sp.val = m := ⟨_, rfl⟩
  rw [hM2] at h3
  rw [hM2]
  have h2 := zEy nl sp d2 n2 e2 hn
  obtain ⟨⟨d3, n3, e3⟩, hM3⟩ : ∃ m, zR (d2, n2, e2) nl = m := ⟨_, rfl⟩
  rw [hM3] at h2
  rw [hM3, decide_eq_false hr]
  simp only at h1 h2 h3 ⊢
  refine Fn.of (fn := Tryz.f124) (by kernel_rfl) rfl (by kernel_rfl) ⟨[.ptr 0 0 0, .v undef, .v undef, .v undef, .v undef, .v undef, .v undef, .v undef, .v undef, .v undef, .v undef, .v undef, .v undef, .v undef, .v undef, .v undef, .v undef, .v undef, .v undef, .v undef], [.ent (mkE nl sp d e)]⟩ rfl ?_
  simp only [mkE]
  repeat' first | (with_reducible first | refine zA ?_ | refine zB ?_ | refine zF ?_) | ((first | with_reducible refine zC fun KC J hJ hKC => ?_ | (refine hKC _ _ _ _ _ (zT [0] h1 rfl rfl rfl (by decide) (by simp) rfl rfl Lq ?_)) | (refine hKC _ _ _ _ _ (zT [0] h3 rfl rfl rfl (by decide) (by simp) rfl rfl Lq ?_)) | (refine hKC _ _ _ _ _ (zT [0] h2 rfl rfl rfl (by decide) (by simp) rfl rfl Lq ?_))); simp (maxSteps := 9999999) only [push_cast, seval, ↓reduceIte, hr', zX, zN, zL, pick, mOf, idx, ren, ren2, ren1, ren0]) | ((with_reducible refine hJ _ _ ?_); clear hJ hKC KC J) | ((with_reducible refine zH ?_ ?_); · rfl)
  refine zd ?_
  simp (maxSteps := 9999999) only [push_cast, seval, ↓reduceIte, show Tryz.f124.results = #[(.cell 2 104)] from rfl]
  exact ⟨rfl, zK _⟩
@[push_cast] theorem zZS : tyI Tryz.prog 186 = some ⟨TypeDesc.func #[] #[3] false, 1, 8, Value.nilFunc⟩ := by kernel_rfl
abbrev bxE : Ent := ⟨0, none, 177, [.ptr 0 0 0], .cells⟩
theorem zQC (nl : Int) (sp : Sp) (d : Dr) (n e : Int) :
  Fn (Tryz.prog) 224 [.ptr 1 0 0] [.ent (mkE nl sp d e), .ent bxE] (.v (.int .i64 (zR (d, n, e) 4).2.1)) [.ent (mkE nl sp (zR (d, n, e) 4).1 (zR (d, n, e) 4).2.2), .ent bxE] := by
 have hk := zCw nl sp d n e 4 (by omega)
 obtain ⟨m, hM⟩ : ∃ m, zR (d, n, e) 4 = m := ⟨_, rfl⟩
 rw [hM] at hk
 rw [hM]
 refine Fn.of (fn := Tryz.f224) (by kernel_rfl) rfl (by kernel_rfl) ⟨[.ptr 1 0 0, .v undef, .v undef, .v undef], [.ent (mkE nl sp d e), .ent bxE]⟩ rfl ?_
 simp only [mkE, bxE]
 repeat' first | (with_reducible first | refine zA ?_ | refine zB ?_ | refine zF ?_) | ((first | with_reducible refine zC fun KC J hJ hKC => ?_ | (refine hKC _ _ _ _ _ (zT [0] hk rfl rfl rfl (by decide) (by simp) rfl rfl Lq ?_))); simp (maxSteps := 9999999) only [push_cast, seval, ↓reduceIte, zX, zN, zL, pick, mOf, idx, ren, ren2, ren1, ren0]) | ((with_reducible refine hJ _ _ ?_); clear hJ hKC KC J)
 refine zd ?_
 simp (maxSteps := 9999999) only [push_cast, seval, ↓reduceIte, show Tryz.f224.results = #[(.tmp 1)] from rfl]
 exact ⟨rfl, zK _⟩
theorem zQK (nl : Int) (sp : Sp) (d : Dr) (n e : Int) :
  Fn (Tryz.prog) 225 [.ptr 1 0 0] [.ent (mkE nl sp d e), .ent bxE] (.v (.int .i64 (zR (d, n, e) 2).2.1)) [.ent (mkE nl sp (zR (d, n, e) 2).1 (zR (d, n, e) 2).2.2), .ent bxE] := by
 have hk := zCw nl sp d n e 2 (by omega)
 obtain ⟨m, hM⟩ : ∃ m, zR (d, n, e) 2 = m := ⟨_, rfl⟩
 rw [hM] at hk
 rw [hM]
 refine Fn.of (fn := Tryz.f225) (by kernel_rfl) rfl (by kernel_rfl) ⟨[.ptr 1 0 0, .v undef, .v undef, .v undef], [.ent (mkE nl sp d e), .ent bxE]⟩ rfl ?_
 simp only [mkE, bxE]
 repeat' first | (with_reducible first | refine zA ?_ | refine zB ?_ | refine zF ?_) | ((first | with_reducible refine zC fun KC J hJ hKC => ?_ | (refine hKC _ _ _ _ _ (zT [0] hk rfl rfl rfl (by decide) (by simp) rfl rfl Lq ?_))); simp (maxSteps := 9999999) only [push_cast, seval, ↓reduceIte, zX, zN, zL, pick, mOf, idx, ren, ren2, ren1, ren0]) | ((with_reducible refine hJ _ _ ?_); clear hJ hKC KC J)
 refine zd ?_
 simp (maxSteps := 9999999) only [push_cast, seval, ↓reduceIte, show Tryz.f225.results = #[(.tmp 1)] from rfl]
 exact ⟨rfl, zK _⟩
theorem zQw (nl : Int) (sp : Sp) (d : Dr) (n e : Int) (hn : nl ≤ 9223372036854775807) (hw : sp.ws.length ≤ 9223372036854775807) :
  Fn (Tryz.prog) 120 [.ptr 0 0 0] [.ent (mkE nl sp d e)] (.agg [.v (.int .i64 (zCq nl sp (d, n, e)).2.1), .v (.int .i64 (zCq nl sp (d, n, e)).2.2.1), .v (.int .i64 (zCq nl sp (d, n, e)).2.2.2)]) [.ent (mkE nl sp (zCq nl sp (d, n, e)).1.1 (zCq nl sp (d, n, e)).1.2.2)] := by
 have h1 := zUq nl sp d n e hw
 simp only [zCq]
 obtain ⟨⟨d1, n1, e1⟩, hM⟩ : ∃ m, opP (d, n, e) sp.ws = m := ⟨_, rfl⟩
 rw [hM] at h1
 rw [hM]
 simp only at h1 ⊢
 have hlab := fun d n e => zEy nl sp d n e hn
 by_cases hr : n1 = 1
 ·subst hr
  have h2 := zHN nl sp d1 1 e1
  simp only [zCC, if_true]
  obtain ⟨⟨d2, n2, e2⟩, hM2⟩ : ∃ m, zAL (d1, 1, e1) sp.val = m := ⟨_, rfl⟩
  rw [hM2] at h2
  rw [hM2]
  have h3 := hlab d2 n2 e2
  obtain ⟨⟨d3, n3, e3⟩, hM3⟩ : ∃ m, zR (d2, n2, e2) nl = m := ⟨_, rfl⟩
  rw [hM3] at h3
  rw [hM3]
  simp only at h2 h3 ⊢
  refine Fn.of (fn := Tryz.f120) (by kernel_rfl) rfl (by kernel_rfl) ⟨[.ptr 0 0 0, .v undef, .v undef, .v undef, .v undef, .v undef, .v undef, .v undef, .v undef, .v undef, .v undef, .v undef, .v undef, .v undef, .v undef, .v undef, .v undef, .v undef, .v undef, .v undef, .v undef, .v undef, .v undef, .v undef, .v undef, .v undef, .v undef, .v undef, .v undef, .v undef, .v undef, .v undef, .v undef, .v undef, .v undef, .v undef], [.ent (mkE nl sp d e)]⟩ rfl ?_
  simp only [mkE]
  repeat' first | (with_reducible first | refine zA ?_ | refine zB ?_ | refine zF ?_) | ((first | with_reducible refine zC fun KC J hJ hKC => ?_ | (refine hKC _ _ _ _ _ (zT [0] h1 rfl rfl rfl (by decide) (by simp) rfl rfl Lq ?_)) | (refine hKC _ _ _ _ _ (zDm [0] h2 rfl rfl rfl (by decide) (by simp) rfl rfl Lq ?_)) | (refine hKC _ _ _ _ _ (zT [0] h3 rfl rfl rfl (by decide) (by simp) rfl rfl Lq ?_))); simp (maxSteps := 9999999) only [push_cast, seval, ↓reduceIte, beq_self_eq_true, zX, zN, zL, pick, mOf, idx, ren, ren2, ren1, ren0]) | ((with_reducible refine hJ _ _ ?_); clear hJ hKC KC J) | ((with_reducible refine zG ?_ ?_); · rfl)
  refine zd ?_
  simp (maxSteps := 9999999) only [push_cast, seval, ↓reduceIte, show Tryz.f120.results = #[(.cell 2 100)] from rfl]
  exact ⟨rfl, zK _⟩
 have hr' : (n1 == 1) = false := by simpa using hr
 by_cases hr8 : n1 = 8
 ·subst hr8
  have h2 := zIu nl sp d1 8 e1
  simp only [zCC, show ((8 : Int) = 1) = False by simp, if_true, if_false]
  obtain ⟨⟨d2, n2, e2⟩, hM2⟩ : ∃ m, zR (d1, 8, e1) 13 = m := ⟨_, rfl⟩
  rw [hM2] at h2
  rw [hM2]
  simp only at h2 ⊢
  refine Fn.of (fn := Tryz.f120) (by kernel_rfl) rfl (by kernel_rfl) ⟨[.ptr 0 0 0, .v undef, .v undef, .v undef, .v undef, .v undef, .v undef, .v undef, .v undef, .v undef, .v undef, .v undef, .v undef, .v undef, .v undef, .v undef, .v undef, .v undef, .v undef, .v undef, .v undef, .v undef, .v undef, .v undef, .v undef, .v undef, .v undef, .v undef, .v undef, .v undef, .v undef, .v undef, .v undef, .v undef, .v undef, .v undef], [.ent (mkE nl sp d e)]⟩ rfl ?_
  simp only [mkE]
  repeat' first | (with_reducible first | refine zA ?_ | refine zB ?_ | refine zF ?_ | refine zJ ?_) | ((first | with_reducible refine zC fun KC J hJ hKC => ?_ | (refine hKC _ _ _ _ _ (zT [0] h1 rfl rfl rfl (by decide) (by simp) rfl rfl Lq ?_)) | (refine hKC _ _ _ _ _ (zDm [0] h2 rfl rfl rfl (by decide) (by simp) rfl rfl Lq ?_))); simp (maxSteps := 9999999) only [push_cast, seval, ↓reduceIte, beq_self_eq_true, zX, zN, zL, pick, mOf, idx, ren, ren2, ren1, ren0]) | ((with_reducible refine hJ _ _ ?_); clear hJ hKC KC J) | ((with_reducible refine zG ?_ ?_); · rfl) | ((with_reducible refine zH ?_ ?_); · rfl)
  refine zd ?_
  simp (maxSteps := 9999999) only [push_cast, seval, ↓reduceIte, show Tryz.f120.results = #[(.cell 2 100)] from rfl]
  exact ⟨rfl, zK _⟩
 by_cases hr9 : n1 = 9
 ·subst hr9
  have h2 := zQC nl sp d1 9 e1
  simp only [zCC, show ((9 : Int) = 1) = False by simp, show ((9 : Int) = 8) = False by simp, if_true, if_false]
  obtain ⟨⟨d2, n2, e2⟩, hM2⟩ : ∃ m, zR (d1, 9, e1) 4 = m := ⟨_, rfl⟩
  rw [hM2] at h2
  rw [hM2]
  simp only at h2 ⊢
  refine Fn.of (fn := Tryz.f120) (by kernel_rfl) rfl (by kernel_rfl) ⟨[.ptr 0 0 0, .v undef, .v undef, .v undef, .v undef, .v undef, .v undef, .v undef, .v undef, .v undef, .v undef, .v undef, .v undef, .v undef, .v undef, .v undef, .v undef, .v undef, .v undef, .v undef, .v undef, .v undef, .v undef, .v undef, .v undef, .v undef, .v undef, .v undef, .v undef, .v undef, .v undef, .v undef, .v undef, .v undef, .v undef, .v undef], [.ent (mkE nl sp d e)]⟩ rfl ?_
  simp only [mkE]
  repeat' first | (with_reducible first | refine zA ?_ | refine zB ?_ | refine zF ?_ | refine zJ ?_) | ((first | with_reducible refine zC fun KC J hJ hKC => ?_ | (refine hKC _ _ _ _ _ (zT [0] h1 rfl rfl rfl (by decide) (by simp) rfl rfl Lq ?_)) | (refine hKC _ _ _ _ _ (zT [0, 1] h2 rfl rfl rfl (by decide) (by simp) rfl rfl Lq ?_))); simp (maxSteps := 9999999) only [push_cast, seval, ↓reduceIte, beq_self_eq_true, zX, zN, zL, pick, mOf, idx, ren, ren2, ren1, ren0]) | ((with_reducible refine hJ _ _ ?_); clear hJ hKC KC J) | ((with_reducible refine zG ?_ ?_); · rfl) | ((with_reducible refine zH ?_ ?_); · rfl)
  refine zd ?_
  simp (maxSteps := 9999999) only [push_cast, seval, ↓reduceIte, show Tryz.f120.results = #[(.cell 2 100)] from rfl]
  exact ⟨rfl, zK _⟩
 by_cases hr10 : n1 = 10
 ·subst hr10
  have h2 := zQK nl sp d1 10 e1
  simp only [zCC, show ((10 : Int) = 1) = False by simp, show ((10 : Int) = 8) = False by simp, show ((10 : Int) = 9) = False by simp, if_true, if_false]
  obtain ⟨⟨d2, n2, e2⟩, hM2⟩ : ∃ m, zR (d1, 10, e1) 2 = m := ⟨_, rfl⟩
  rw [hM2] at h2
  rw [hM2]
  simp only at h2 ⊢
  refine Fn.of (fn := Tryz.f120) (by kernel_rfl) rfl (by kernel_rfl) ⟨[.ptr 0 0 0, .v undef, .v undef, .v undef, .v undef, .v undef, .v undef, .v undef, .v undef, .v undef, .v undef, .v undef, .v undef, .v undef, .v undef, .v undef, .v undef, .v undef, .v undef, .v undef, .v undef, .v undef, .v undef, .v undef, .v undef, .v undef, .v undef, .v undef, .v undef, .v undef, .v undef, .v undef, .v undef, .v undef, .v undef, .v undef], [.ent (mkE nl sp d e)]⟩ rfl ?_
  simp only [mkE]
  repeat' first | (with_reducible first | refine zA ?_ | refine zB ?_ | refine zF ?_ | refine zJ ?_) | ((first | with_reducible refine zC fun KC J hJ hKC => ?_ | (refine hKC _ _ _ _ _ (zT [0] h1 rfl rfl rfl (by decide) (by simp) rfl rfl Lq ?_)) | (refine hKC _ _ _ _ _ (zT [0, 1] h2 rfl rfl rfl (by decide) (by simp) rfl rfl Lq ?_))); simp (maxSteps := 9999999) only [push_cast, seval, ↓reduceIte, beq_self_eq_true, zX, zN, zL, pick, mOf, idx, ren, ren2, ren1, ren0]) | ((with_reducible refine hJ _ _ ?_); clear hJ hKC KC J) | ((with_reducible refine zG ?_ ?_); · rfl) | ((with_reducible refine zH ?_ ?_); · rfl)
  refine zd ?_
  simp (maxSteps := 9999999) only [push_cast, seval, ↓reduceIte, show Tryz.f120.results = #[(.cell 2 100)] from rfl]
  exact ⟨rfl, zK _⟩
 have hr8' : (n1 == 8) = false := by simpa using hr8
 have hr9' : (n1 == 9) = false := by simpa using hr9
 have hr10' : (n1 == 10) = false := by simpa using hr10
 simp only [zCC, if_neg hr, if_neg hr8, if_neg hr9, if_neg hr10]
 refine Fn.of (fn := Tryz.f120) (by kernel_rfl) rfl (by kernel_rfl) ⟨[.ptr 0 0 0, .v undef, .v undef, .v undef, .v undef, .v undef, .v undef, .v undef, .v undef, .v undef, .v undef, .v undef, .v undef, .v undef, .v undef, .v undef, .v undef, .v undef, .v undef, .v undef, .v undef, .v undef, .v undef, .v undef, .v undef, .v undef, .v undef, .v undef, .v undef, .v undef, .v undef, .v undef, .v undef, .v undef, .v undef, .v undef], [.ent (mkE nl sp d e)]⟩ rfl ?_
 simp only [mkE]
 repeat' first | (with_reducible first | refine zA ?_ | refine zB ?_ | refine zF ?_ | refine zJ ?_) | ((first | with_reducible refine zC fun KC J hJ hKC => ?_ | (refine hKC _ _ _ _ _ (zT [0] h1 rfl rfl rfl (by decide) (by simp) rfl rfl Lq ?_))); simp (maxSteps := 9999999) only [push_cast, seval, ↓reduceIte, hr', hr8', hr9', hr10', beq_self_eq_true, zX, zN, zL, pick, mOf, idx, ren, ren2, ren1, ren0]) | ((with_reducible refine hJ _ _ ?_); clear hJ hKC KC J) | ((with_reducible refine zH ?_ ?_); · rfl)
 refine zd ?_
 simp (maxSteps := 9999999) only [push_cast, seval, ↓reduceIte, show Tryz.f120.results = #[(.cell 2 100)] from rfl]
 exact ⟨rfl, zK _⟩
theorem zBe {α : Type} (f : M3 → M3 × α) (m : M3) : ∀ n, (ze f n m).2.length = n
 | 0 => rfl
 | n + 1 => by simp [ze, zBe f m n]
theorem zCm {m : M3} {b : Int} (hb : 1 ≤ b) : 0 ≤ (zR m b).2.1 ∧ (zR m b).2.1 < b := by
 unfold zR zBz
 have h := zKn m.1 b hb
 split
 ·split
  ·exact h
  ·exact ⟨by simp only; omega, by simp only; omega⟩
 ·exact ⟨by simp only; omega, by simp only; omega⟩
theorem zQp (nl : Int) (sp : Sp) (d : Dr) (n e most : Int) (hm0 : 0 ≤ most) (hm1 : most ≤ 1000) (hn : nl ≤ 9223372036854775807) (hw : sp.ws.length ≤ 9223372036854775807) :
  Fn (Tryz.prog) 119 [.ptr 0 0 0, .v (.int .i64 most), .bnd 120 [.ptr 0 0 0]] [.ent (mkE nl sp d e)] (.sl false 3 (zo (zCB (zCq nl sp) most (d, n, e)).2)) [.ent (mkE nl sp (zCB (zCq nl sp) most (d, n, e)).1.1 (zCB (zCq nl sp) most (d, n, e)).1.2.2)] := by
 have hk := zCw nl sp d n e (most + 1) (by omega)
 have hr := zCm (m := (d, n, e)) (show 1 ≤ most + 1 by omega)
 unfold zCB
 obtain ⟨b, hB⟩ : ∃ m, zR (d, n, e) (most + 1) = m := ⟨_, rfl⟩
 rw [hB] at hk hr
 rw [hB]
 obtain ⟨N, hN⟩ : ∃ N : Nat, b.2.1 = N := ⟨b.2.1.toNat, by omega⟩
 rw [hN] at hk hr
 rw [hN, Int.toNat_natCast]
 obtain ⟨f, hf⟩ : ∃ f, zCq nl sp = f := ⟨_, rfl⟩
 have hone : ∀ (d : Dr) (n e : Int), Fn (Tryz.prog) 120 [.ptr 0 0 0] [.ent (mkE nl sp d e)] (.agg ((fun x : Int × Int × Int => [.v (.int .i64 x.1), .v (.int .i64 x.2.1), .v (.int .i64 x.2.2)]) (f (d, n, e)).2)) [.ent (mkE nl sp (f (d, n, e)).1.1 (f (d, n, e)).1.2.2)] := fun d n e => by rw [← hf]; exact zQw nl sp d n e hn hw
 rw [hf]
 have wm : IntKind.i64.wrap (most + 1) = most + 1 := zBk (by omega) (by omega)
 have ek : ∀ d e, [Slot.ent (mkE nl sp d e)] ++ List.replicate 2 Slot.dead = [.ent (mkE nl sp d e), .dead, .dead] := fun d e => rfl
 have mk0 : ∀ d e, Slot.ent ⟨0, none, 179, (mkE nl sp d e).cells, .cells⟩ = .ent (mkE nl sp d e) := fun d e => rfl
 refine Fn.of (fn := Tryz.f119) (by kernel_rfl) rfl (by kernel_rfl) ⟨[.ptr 0 0 0, .v (.int .i64 most), .bnd 120 [.ptr 0 0 0], .v undef, .v undef, .v undef, .v undef, .v undef, .v undef, .v undef, .v undef, .v undef, .v undef, .v undef, .v undef, .v undef, .v undef, .v undef, .v undef, .v undef, .v undef], [.ent (mkE nl sp d e)]⟩ rfl ?_
 simp only [mkE] at hk ⊢
 repeat' first | (with_reducible first | refine zA ?_ | refine zB ?_ | refine zI ?_) | ((first | with_reducible refine zC fun KC J hJ hKC => ?_ | (refine hKC _ _ _ _ _ (zT [0] hk rfl rfl rfl (by decide) (by simp) rfl rfl Lq ?_))); simp (maxSteps := 9999999) only [push_cast, seval, ↓reduceIte, wm, zX, zN, zL, pick, mOf, idx, ren, ren2, ren1, ren0]) | ((with_reducible refine hJ _ _ ?_); clear hJ hKC KC J)
 refine zBu 1 (γ := {i : Nat // i ≤ N}) (fun i => ⟨[.ptr 0 0 0, .any, .bnd 120 [.ptr 0 0 0], .any, .any, .any, .any, eR 3 i.1, .any, .any, .any, .v (.int .i64 N), .v (.int .i64 i.1), .any, .any, .any, .any, .any, .any, .any, .any], σR [.ent (mkE nl sp (ze f i.1 b).1.1 (ze f i.1 b).1.2.2)] 2 i.1 3 100 (zs (ze f i.1 b).2)⟩) (fun i => N - i.1) ⟨0, by omega⟩ rfl (fun i => σR_le [_] _ _ _ _ _) (fun i => ?_) (fun i => ?_) ⟨?_, ?_⟩ ?_
 ·refine zAF ?_
  rcases zEk [.ent (mkE nl sp (ze f i.1 b).1.1 (ze f i.1 b).1.2.2)] 3 2 i.1 3 100 (zs (ze f i.1 b).2) with ⟨_, hD, hσ⟩ | ⟨j, _, hD, hσ⟩
  all_goals
   simp only [hσ, ek, List.cons_append, List.nil_append, List.map_cons, List.map_nil, zL, mkE, zc]
   rfl
 ·rcases zEk [.ent (mkE nl sp (ze f i.1 b).1.1 (ze f i.1 b).1.2.2)] 3 2 i.1 3 100 (zs (ze f i.1 b).2) with ⟨_, hD, hσ⟩ | ⟨j, _, hD, hσ⟩
  all_goals
   simp only [hD, hσ]
   rfl
 ·exact Lq
 ·exact Fq
 rintro ⟨i, hi⟩
 have hLl := zBe f b i
 obtain ⟨⟨d1, n1, e1⟩, hm⟩ : ∃ m, (ze f i b).1 = m := ⟨_, rfl⟩
 obtain ⟨L, hL⟩ : ∃ L, (ze f i b).2 = L := ⟨_, rfl⟩
 have hst : ze f (i + 1) b = ((f (d1, n1, e1)).1, L ++ [(f (d1, n1, e1)).2]) := by simp only [ze, hm, hL]
 simp only [hm, hL] at hLl ⊢
 by_cases hlt : (i : Int) < (N : Int)
 ·have hi1 : i + 1 ≤ N := by omega
  have h1 := hone d1 n1 e1
  obtain ⟨⟨⟨d2, n2, e2⟩, x⟩, hx⟩ : ∃ r, f (d1, n1, e1) = r := ⟨_, rfl⟩
  rw [hx] at h1 hst
  simp only [mkE] at h1
  have hD1 : eR 3 (i + 1) = .ref 3 i (i + 1) := rfl
  have hσ1 : σR [.ent (mkE nl sp d2 e2)] 2 (i + 1) 3 100 (zs (L ++ [x])) = [.ent (mkE nl sp d2 e2), .dead, .dead, .ent ⟨i, some 3, 100, zs L ++ zs [x], .cells⟩] := by rw [zIx]; rfl
  rcases zEk [.ent (mkE nl sp d1 e1)] 3 2 i 3 100 (zs L) with ⟨h0, hD, hσ⟩ | ⟨q, hq, hD, hσ⟩
  ·have hL0 : L = [] := List.length_eq_zero_iff.1 (by omega)
   subst hL0
   repeat' first | (with_reducible first | refine zA ?_ | refine zB ?_ | refine zP ?_ | refine zJ ?_ | refine zI ?_) | ((first | with_reducible refine zC fun KC J hJ hKC => ?_ | (refine hKC _ _ _ _ _ (zDm [0] h1 rfl rfl rfl (by decide) (by simp) rfl rfl Lq ?_))); simp (maxSteps := 9999999) only [push_cast, seval, ↓reduceIte, hlt, hD, hσ, mkE, zX, zN, zL, pick, mOf, idx, ren, ren2, ren1, ren0, zp (i := i) (n := N) (by omega) (by omega)]) | ((with_reducible refine hJ _ _ ?_); clear hJ hKC KC J) | ((with_reducible refine zG ?_ ?_); · rfl)
   subst h0
   refine ⟨⟨_, hi1⟩, by simp only; omega, ?_, ?_⟩
   ·simp only [hD1]
    exact Lq
   ·simp only [hst, hσ1, mkE]
    exact ⟨[_, _, _, _], _, rfl, .inr (.inl rfl), .inl rfl, .inl rfl, .inr (.inl rfl), trivial⟩
  ·have hlC : (zs L).length = (q + 1) * 3 := by rw [zAz, hLl, hq]
   have htC := zBo hlC
   have hbm : Nat.beq q q = true := Nat.beq_refl q
   repeat' first | (with_reducible first | refine zA ?_ | refine zB ?_ | refine zP ?_ | refine zJ ?_ | refine zI ?_) | ((with_reducible refine And.intro ?_ ?_); · exact Sq) | ((first | with_reducible refine zC fun KC J hJ hKC => ?_ | (refine hKC _ _ _ _ _ (zDm [0] h1 rfl rfl rfl (by decide) (by simp) rfl rfl Lq ?_))); simp (maxSteps := 9999999) only [push_cast, seval, ↓reduceIte, hlt, hD, hσ, ek, List.cons_append, List.nil_append, hlC, htC, hbm, mkE, zX, zN, zL, pick, mOf, idx, ren, ren2, ren1, ren0, zc, zp (i := i) (n := N) (by omega) (by omega)]) | ((with_reducible refine hJ _ _ ?_); clear hJ hKC KC J) | ((with_reducible refine zG ?_ ?_); · rfl)
   subst hq
   refine ⟨⟨_, hi1⟩, by simp only; omega, ?_, ?_⟩
   ·simp only [hD1]
    exact Lq
   ·simp only [hst, hσ1, mkE]
    exact ⟨[_, _, _, _], _, rfl, .inr (.inl rfl), .inl rfl, .inl rfl, .inr (.inl rfl), trivial⟩
 ·have hin : i = N := by omega
  subst hin
  rw [hm, hL]
  rcases zEk [.ent (mkE nl sp d1 e1)] 3 2 i 3 100 (zs L) with ⟨h0, hD, hσ⟩ | ⟨q, hq, hD, hσ⟩
  ·have hL0 : L = [] := List.length_eq_zero_iff.1 (by omega)
   subst hL0
   subst h0
   repeat' first | (with_reducible first | refine zA ?_ | refine zB ?_ | refine zm ?_ | refine zl ?_ | refine zF ?_ | refine zZ ?_) | ((with_reducible refine zC fun KC J hJ hKC => ?_); simp (maxSteps := 9999999) only [push_cast, seval, ↓reduceIte, hlt, hD, hσ, mkE]) | ((with_reducible refine hJ _ _ ?_); clear hJ hKC KC J) | ((with_reducible refine zH ?_ ?_); · rfl)
   refine zd ?_
   simp (maxSteps := 9999999) only [push_cast, seval, ↓reduceIte, show Tryz.f119.results = #[(.tmp 6)] from rfl]
   exact ⟨rfl, Lq⟩
  ·have hcI : zAh 3 (q + 1) (zs L) = zo L := by rw [← hq, ← hLl]; exact zLT L
   have hlC : (zs L).length = (q + 1) * 3 := by rw [zAz, hLl, hq]
   have hbm : Nat.beq q q = true := Nat.beq_refl q
   simp only [hD, hσ, ek, List.cons_append, List.nil_append, mkE]
   repeat' first | (refine zU 3 3 rfl (by (simp (maxSteps := 9999999) only [push_cast, seval, ↓reduceIte]) <;> rfl) ?_; simp (maxSteps := 9999999) only [push_cast, seval, ↓reduceIte, zAK, zi, fr3, fr2, fr1, fr0, zq, zn, hlt, hD, hσ, ek, List.cons_append, List.nil_append, hcI, hlC, hbm, mkE]) | (with_reducible first | refine zA ?_ | refine zB ?_ | refine zm ?_ | refine zl ?_ | refine zF ?_ | refine zZ ?_) | ((with_reducible refine zC fun KC J hJ hKC => ?_); simp (maxSteps := 9999999) only [push_cast, seval, ↓reduceIte, hlt, hD, hσ, ek, List.cons_append, List.nil_append, hcI, hlC, hbm, mkE]) | ((with_reducible refine hJ _ _ ?_); clear hJ hKC KC J) | ((with_reducible refine zH ?_ ?_); · rfl)
   refine zd ?_
   simp (maxSteps := 9999999) only [push_cast, seval, ↓reduceIte, show Tryz.f119.results = #[(.tmp 6)] from rfl]
   exact ⟨rfl, Lq⟩
theorem zRl (nl : Int) (sp : Sp) (d : Dr) (n e most : Int) (hm0 : 0 ≤ most) (hm1 : most ≤ 1000) (hn : nl ≤ 9223372036854775807) :
  Fn (Tryz.prog) 121 [.ptr 0 0 0, .v (.int .i64 most), .bnd 122 [.ptr 0 0 0]] [.ent (mkE nl sp d e)] (.sl false 2 (za (zCB (zDz nl sp) most (d, n, e)).2)) [.ent (mkE nl sp (zCB (zDz nl sp) most (d, n, e)).1.1 (zCB (zDz nl sp) most (d, n, e)).1.2.2)] := by
 have hk := zCw nl sp d n e (most + 1) (by omega)
 have hr := zCm (m := (d, n, e)) (show 1 ≤ most + 1 by omega)
 unfold zCB
 obtain ⟨b, hB⟩ : ∃ m, zR (d, n, e) (most + 1) = m := ⟨_, rfl⟩
 rw [hB] at hk hr
 rw [hB]
 obtain ⟨N, hN⟩ : ∃ N : Nat, b.2.1 = N := ⟨b.2.1.toNat, by omega⟩
 rw [hN] at hk hr
 rw [hN, Int.toNat_natCast]
 obtain ⟨f, hf⟩ : ∃ f, zDz nl sp = f := ⟨_, rfl⟩
 have hone : ∀ (d : Dr) (n e : Int), Fn (Tryz.prog) 122 [.ptr 0 0 0] [.ent (mkE nl sp d e)] (.agg ((fun x : Int × Int => [.v (.int .i64 x.1), .v (.int .i64 x.2)]) (f (d, n, e)).2)) [.ent (mkE nl sp (f (d, n, e)).1.1 (f (d, n, e)).1.2.2)] := fun d n e => by rw [← hf]; exact zSf nl sp d n e hn
 rw [hf]
 have wm : IntKind.i64.wrap (most + 1) = most + 1 := zBk (by omega) (by omega)
 have ek : ∀ d e, [Slot.ent (mkE nl sp d e)] ++ List.replicate 2 Slot.dead = [.ent (mkE nl sp d e), .dead, .dead] := fun d e => rfl
 have mk0 : ∀ d e, Slot.ent ⟨0, none, 179, (mkE nl sp d e).cells, .cells⟩ = .ent (mkE nl sp d e) := fun d e => rfl
 refine Fn.of (fn := Tryz.f121) (by kernel_rfl) rfl (by kernel_rfl) ⟨[.ptr 0 0 0, .v (.int .i64 most), .bnd 122 [.ptr 0 0 0], .v undef, .v undef, .v undef, .v undef, .v undef, .v undef, .v undef, .v undef, .v undef, .v undef, .v undef, .v undef, .v undef, .v undef, .v undef, .v undef, .v undef, .v undef], [.ent (mkE nl sp d e)]⟩ rfl ?_
 simp only [mkE] at hk ⊢
 repeat' first | (with_reducible first | refine zA ?_ | refine zB ?_ | refine zI ?_) | ((first | with_reducible refine zC fun KC J hJ hKC => ?_ | (refine hKC _ _ _ _ _ (zT [0] hk rfl rfl rfl (by decide) (by simp) rfl rfl Lq ?_))); simp (maxSteps := 9999999) only [push_cast, seval, ↓reduceIte, wm, zX, zN, zL, pick, mOf, idx, ren, ren2, ren1, ren0]) | ((with_reducible refine hJ _ _ ?_); clear hJ hKC KC J)
 refine zBu 1 (γ := {i : Nat // i ≤ N}) (fun i => ⟨[.ptr 0 0 0, .any, .bnd 122 [.ptr 0 0 0], .any, .any, .any, .any, eR 3 i.1, .any, .any, .any, .v (.int .i64 N), .v (.int .i64 i.1), .any, .any, .any, .any, .any, .any, .any, .any], σR [.ent (mkE nl sp (ze f i.1 b).1.1 (ze f i.1 b).1.2.2)] 2 i.1 2 34 (zk (ze f i.1 b).2)⟩) (fun i => N - i.1) ⟨0, by omega⟩ rfl (fun i => σR_le [_] _ _ _ _ _) (fun i => ?_) (fun i => ?_) ⟨?_, ?_⟩ ?_
 ·refine zAF ?_
  rcases zEk [.ent (mkE nl sp (ze f i.1 b).1.1 (ze f i.1 b).1.2.2)] 3 2 i.1 2 34 (zk (ze f i.1 b).2) with ⟨_, hD, hσ⟩ | ⟨j, _, hD, hσ⟩
  all_goals
   simp only [hσ, ek, List.cons_append, List.nil_append, List.map_cons, List.map_nil, zL, mkE, zV]
   rfl
 ·rcases zEk [.ent (mkE nl sp (ze f i.1 b).1.1 (ze f i.1 b).1.2.2)] 3 2 i.1 2 34 (zk (ze f i.1 b).2) with ⟨_, hD, hσ⟩ | ⟨j, _, hD, hσ⟩
  all_goals
   simp only [hD, hσ]
   rfl
 ·exact Lq
 ·exact Fq
 rintro ⟨i, hi⟩
 have hLl := zBe f b i
 obtain ⟨⟨d1, n1, e1⟩, hm⟩ : ∃ m, (ze f i b).1 = m := ⟨_, rfl⟩
 obtain ⟨L, hL⟩ : ∃ L, (ze f i b).2 = L := ⟨_, rfl⟩
 have hst : ze f (i + 1) b = ((f (d1, n1, e1)).1, L ++ [(f (d1, n1, e1)).2]) := by simp only [ze, hm, hL]
 simp only [hm, hL] at hLl ⊢
 by_cases hlt : (i : Int) < (N : Int)
 ·have hi1 : i + 1 ≤ N := by omega
  have h1 := hone d1 n1 e1
  obtain ⟨⟨⟨d2, n2, e2⟩, x⟩, hx⟩ : ∃ r, f (d1, n1, e1) = r := ⟨_, rfl⟩
  rw [hx] at h1 hst
  simp only [mkE] at h1
  have hD1 : eR 3 (i + 1) = .ref 3 i (i + 1) := rfl
  have hσ1 : σR [.ent (mkE nl sp d2 e2)] 2 (i + 1) 2 34 (zk (L ++ [x])) = [.ent (mkE nl sp d2 e2), .dead, .dead, .ent ⟨i, some 2, 34, zk L ++ zk [x], .cells⟩] := by rw [zFw]; rfl
  rcases zEk [.ent (mkE nl sp d1 e1)] 3 2 i 2 34 (zk L) with ⟨h0, hD, hσ⟩ | ⟨q, hq, hD, hσ⟩
  ·have hL0 : L = [] := List.length_eq_zero_iff.1 (by omega)
   subst hL0
   repeat' first | (with_reducible first | refine zA ?_ | refine zB ?_ | refine zP ?_ | refine zJ ?_ | refine zI ?_) | ((first | with_reducible refine zC fun KC J hJ hKC => ?_ | (refine hKC _ _ _ _ _ (zDm [0] h1 rfl rfl rfl (by decide) (by simp) rfl rfl Lq ?_))); simp (maxSteps := 9999999) only [push_cast, seval, ↓reduceIte, hlt, hD, hσ, mkE, zX, zN, zL, pick, mOf, idx, ren, ren2, ren1, ren0, zp (i := i) (n := N) (by omega) (by omega)]) | ((with_reducible refine hJ _ _ ?_); clear hJ hKC KC J) | ((with_reducible refine zG ?_ ?_); · rfl)
   subst h0
   refine ⟨⟨_, hi1⟩, by simp only; omega, ?_, ?_⟩
   ·simp only [hD1]
    exact Lq
   ·simp only [hst, hσ1, mkE]
    exact ⟨[_, _, _, _], _, rfl, .inr (.inl rfl), .inl rfl, .inl rfl, .inr (.inl rfl), trivial⟩
  ·have hlC : (zk L).length = (q + 1) * 2 := by rw [zAp, hLl, hq]
   have htC := zBo hlC
   have hbm : Nat.beq q q = true := Nat.beq_refl q
   repeat' first | (with_reducible first | refine zA ?_ | refine zB ?_ | refine zP ?_ | refine zJ ?_ | refine zI ?_) | ((with_reducible refine And.intro ?_ ?_); · exact Sq) | ((first | with_reducible refine zC fun KC J hJ hKC => ?_ | (refine hKC _ _ _ _ _ (zDm [0] h1 rfl rfl rfl (by decide) (by simp) rfl rfl Lq ?_))); simp (maxSteps := 9999999) only [push_cast, seval, ↓reduceIte, hlt, hD, hσ, ek, List.cons_append, List.nil_append, hlC, htC, hbm, mkE, zX, zN, zL, pick, mOf, idx, ren, ren2, ren1, ren0, zV, zp (i := i) (n := N) (by omega) (by omega)]) | ((with_reducible refine hJ _ _ ?_); clear hJ hKC KC J) | ((with_reducible refine zG ?_ ?_); · rfl)
   subst hq
   refine ⟨⟨_, hi1⟩, by simp only; omega, ?_, ?_⟩
   ·simp only [hD1]
    exact Lq
   ·simp only [hst, hσ1, mkE]
    exact ⟨[_, _, _, _], _, rfl, .inr (.inl rfl), .inl rfl, .inl rfl, .inr (.inl rfl), trivial⟩
 ·have hin : i = N := by omega
  subst hin
  rw [hm, hL]
  rcases zEk [.ent (mkE nl sp d1 e1)] 3 2 i 2 34 (zk L) with ⟨h0, hD, hσ⟩ | ⟨q, hq, hD, hσ⟩
  ·have hL0 : L = [] := List.length_eq_zero_iff.1 (by omega)
   subst hL0
   subst h0
   repeat' first | (with_reducible first | refine zA ?_ | refine zB ?_ | refine zm ?_ | refine zl ?_ | refine zF ?_ | refine zZ ?_) | ((with_reducible refine zC fun KC J hJ hKC => ?_); simp (maxSteps := 9999999) only [push_cast, seval, ↓reduceIte, hlt, hD, hσ, mkE]) | ((with_reducible refine hJ _ _ ?_); clear hJ hKC KC J) | ((with_reducible refine zH ?_ ?_); · rfl)
   refine zd ?_
   simp (maxSteps := 9999999) only [push_cast, seval, ↓reduceIte, show Tryz.f121.results = #[(.tmp 6)] from rfl]
   exact ⟨rfl, Lq⟩
  ·have hcI : zAh 2 (q + 1) (zk L) = za L := by rw [← hq, ← hLl]; exact zGF L
   have hlC : (zk L).length = (q + 1) * 2 := by rw [zAp, hLl, hq]
   have hbm : Nat.beq q q = true := Nat.beq_refl q
   simp only [hD, hσ, ek, List.cons_append, List.nil_append, mkE]
   repeat' first | (refine zU 3 3 rfl (by (simp (maxSteps := 9999999) only [push_cast, seval, ↓reduceIte]) <;> rfl) ?_; simp (maxSteps := 9999999) only [push_cast, seval, ↓reduceIte, zAK, zi, fr3, fr2, fr1, fr0, zq, zn, hlt, hD, hσ, ek, List.cons_append, List.nil_append, hcI, hlC, hbm, mkE]) | (with_reducible first | refine zA ?_ | refine zB ?_ | refine zm ?_ | refine zl ?_ | refine zF ?_ | refine zZ ?_) | ((with_reducible refine zC fun KC J hJ hKC => ?_); simp (maxSteps := 9999999) only [push_cast, seval, ↓reduceIte, hlt, hD, hσ, ek, List.cons_append, List.nil_append, hcI, hlC, hbm, mkE]) | ((with_reducible refine hJ _ _ ?_); clear hJ hKC KC J) | ((with_reducible refine zH ?_ ?_); · rfl)
   refine zd ?_
   simp (maxSteps := 9999999) only [push_cast, seval, ↓reduceIte, show Tryz.f121.results = #[(.tmp 6)] from rfl]
   exact ⟨rfl, Lq⟩
theorem zQy (nl : Int) (sp : Sp) (d : Dr) (n e most : Int) (hm0 : 0 ≤ most) (hm1 : most ≤ 1000) (hn : nl ≤ 9223372036854775807) :
  Fn (Tryz.prog) 123 [.ptr 0 0 0, .v (.int .i64 most), .bnd 124 [.ptr 0 0 0]] [.ent (mkE nl sp d e)] (.sl false 3 (zg (zCB (zDi nl sp) most (d, n, e)).2)) [.ent (mkE nl sp (zCB (zDi nl sp) most (d, n, e)).1.1 (zCB (zDi nl sp) most (d, n, e)).1.2.2)] := by
 have hk := zCw nl sp d n e (most + 1) (by omega)
 have hr := zCm (m := (d, n, e)) (show 1 ≤ most + 1 by omega)
 unfold zCB
 obtain ⟨b, hB⟩ : ∃ m, zR (d, n, e) (most + 1) = m := ⟨_, rfl⟩
 rw [hB] at hk hr
 rw [hB]
 obtain ⟨N, hN⟩ : ∃ N : Nat, b.2.1 = N := ⟨b.2.1.toNat, by omega⟩
 rw [hN] at hk hr
 rw [hN, Int.toNat_natCast]
 obtain ⟨f, hf⟩ : ∃ f, zDi nl sp = f := ⟨_, rfl⟩
 have hone : ∀ (d : Dr) (n e : Int), Fn (Tryz.prog) 124 [.ptr 0 0 0] [.ent (mkE nl sp d e)] (.agg ((fun x : Bool × Int × Int => [.v (.bool x.1), .v (.int .i64 x.2.1), .v (.int .i64 x.2.2)]) (f (d, n, e)).2)) [.ent (mkE nl sp (f (d, n, e)).1.1 (f (d, n, e)).1.2.2)] := fun d n e => by rw [← hf]; exact zTA nl sp d n e hn
 rw [hf]
 have wm : IntKind.i64.wrap (most + 1) = most + 1 := zBk (by omega) (by omega)
 have ek : ∀ d e, [Slot.ent (mkE nl sp d e)] ++ List.replicate 2 Slot.dead = [.ent (mkE nl sp d e), .dead, .dead] := fun d e => rfl
 have mk0 : ∀ d e, Slot.ent ⟨0, none, 179, (mkE nl sp d e).cells, .cells⟩ = .ent (mkE nl sp d e) := fun d e => rfl
 refine Fn.of (fn := Tryz.f123) (by kernel_rfl) rfl (by kernel_rfl) ⟨[.ptr 0 0 0, .v (.int .i64 most), .bnd 124 [.ptr 0 0 0], .v undef, .v undef, .v undef, .v undef, .v undef, .v undef, .v undef, .v undef, .v undef, .v undef, .v undef, .v undef, .v undef, .v undef, .v undef, .v undef, .v undef, .v undef], [.ent (mkE nl sp d e)]⟩ rfl ?_
 simp only [mkE] at hk ⊢
 repeat' first | (with_reducible first | refine zA ?_ | refine zB ?_ | refine zI ?_) | ((first | with_reducible refine zC fun KC J hJ hKC => ?_ | (refine hKC _ _ _ _ _ (zT [0] hk rfl rfl rfl (by decide) (by simp) rfl rfl Lq ?_))); simp (maxSteps := 9999999) only [push_cast, seval, ↓reduceIte, wm, zX, zN, zL, pick, mOf, idx, ren, ren2, ren1, ren0]) | ((with_reducible refine hJ _ _ ?_); clear hJ hKC KC J)
 refine zBu 1 (γ := {i : Nat // i ≤ N}) (fun i => ⟨[.ptr 0 0 0, .any, .bnd 124 [.ptr 0 0 0], .any, .any, .any, .any, eR 3 i.1, .any, .any, .any, .v (.int .i64 N), .v (.int .i64 i.1), .any, .any, .any, .any, .any, .any, .any, .any], σR [.ent (mkE nl sp (ze f i.1 b).1.1 (ze f i.1 b).1.2.2)] 2 i.1 3 104 (zj (ze f i.1 b).2)⟩) (fun i => N - i.1) ⟨0, by omega⟩ rfl (fun i => σR_le [_] _ _ _ _ _) (fun i => ?_) (fun i => ?_) ⟨?_, ?_⟩ ?_
 ·refine zAF ?_
  rcases zEk [.ent (mkE nl sp (ze f i.1 b).1.1 (ze f i.1 b).1.2.2)] 3 2 i.1 3 104 (zj (ze f i.1 b).2) with ⟨_, hD, hσ⟩ | ⟨j, _, hD, hσ⟩
  all_goals
   simp only [hσ, ek, List.cons_append, List.nil_append, List.map_cons, List.map_nil, zL, mkE, zW]
   rfl
 ·rcases zEk [.ent (mkE nl sp (ze f i.1 b).1.1 (ze f i.1 b).1.2.2)] 3 2 i.1 3 104 (zj (ze f i.1 b).2) with ⟨_, hD, hσ⟩ | ⟨j, _, hD, hσ⟩
  all_goals
   simp only [hD, hσ]
   rfl
 ·exact Lq
 ·exact Fq
 rintro ⟨i, hi⟩
 have hLl := zBe f b i
 obtain ⟨⟨d1, n1, e1⟩, hm⟩ : ∃ m, (ze f i b).1 = m := ⟨_, rfl⟩
 obtain ⟨L, hL⟩ : ∃ L, (ze f i b).2 = L := ⟨_, rfl⟩
 have hst : ze f (i + 1) b = ((f (d1, n1, e1)).1, L ++ [(f (d1, n1, e1)).2]) := by simp only [ze, hm, hL]
 simp only [hm, hL] at hLl ⊢
 by_cases hlt : (i : Int) < (N : Int)
 ·have hi1 : i + 1 ≤ N := by omega
  have h1 := hone d1 n1 e1
  obtain ⟨⟨⟨d2, n2, e2⟩, x⟩, hx⟩ : ∃ r, f (d1, n1, e1) = r := ⟨_, rfl⟩
  rw [hx] at h1 hst
  simp only [mkE] at h1
  have hD1 : eR 3 (i + 1) = .ref 3 i (i + 1) := rfl
  have hσ1 : σR [.ent (mkE nl sp d2 e2)] 2 (i + 1) 3 104 (zj (L ++ [x])) = [.ent (mkE nl sp d2 e2), .dead, .dead, .ent ⟨i, some 3, 104, zj L ++ zj [x], .cells⟩] := by rw [zBM]; rfl
  rcases zEk [.ent (mkE nl sp d1 e1)] 3 2 i 3 104 (zj L) with ⟨h0, hD, hσ⟩ | ⟨q, hq, hD, hσ⟩
  ·have hL0 : L = [] := List.length_eq_zero_iff.1 (by omega)
   subst hL0
   repeat' first | (with_reducible first | refine zA ?_ | refine zB ?_ | refine zP ?_ | refine zJ ?_ | refine zI ?_) | ((first | with_reducible refine zC fun KC J hJ hKC => ?_ | (refine hKC _ _ _ _ _ (zDm [0] h1 rfl rfl rfl (by decide) (by simp) rfl rfl Lq ?_))); simp (maxSteps := 9999999) only [push_cast, seval, ↓reduceIte, hlt, hD, hσ, mkE, zX, zN, zL, pick, mOf, idx, ren, ren2, ren1, ren0, zp (i := i) (n := N) (by omega) (by omega)]) | ((with_reducible refine hJ _ _ ?_); clear hJ hKC KC J) | ((with_reducible refine zG ?_ ?_); · rfl)
   subst h0
   refine ⟨⟨_, hi1⟩, by simp only; omega, ?_, ?_⟩
   ·simp only [hD1]
    exact Lq
   ·simp only [hst, hσ1, mkE]
    exact ⟨[_, _, _, _], _, rfl, .inr (.inl rfl), .inl rfl, .inl rfl, .inr (.inl rfl), trivial⟩
  ·have hlC : (zj L).length = (q + 1) * 3 := by rw [zy, hLl, hq]
   have htC := zBo hlC
   have hbm : Nat.beq q q = true := Nat.beq_refl q
   repeat' first | (with_reducible first | refine zA ?_ | refine zB ?_ | refine zP ?_ | refine zJ ?_ | refine zI ?_) | ((with_reducible refine And.intro ?_ ?_); · exact Sq) | ((first | with_reducible refine zC fun KC J hJ hKC => ?_ | (refine hKC _ _ _ _ _ (zDm [0] h1 rfl rfl rfl (by decide) (by simp) rfl rfl Lq ?_))); simp (maxSteps := 9999999) only [push_cast, seval, ↓reduceIte, hlt, hD, hσ, ek, List.cons_append, List.nil_append, hlC, htC, hbm, mkE, zX, zN, zL, pick, mOf, idx, ren, ren2, ren1, ren0, zW, zp (i := i) (n := N) (by omega) (by omega)]) | ((with_reducible refine hJ _ _ ?_); clear hJ hKC KC J) | ((with_reducible refine zG ?_ ?_); · rfl)
   subst hq
   refine ⟨⟨_, hi1⟩, by simp only; omega, ?_, ?_⟩
   ·simp only [hD1]
    exact Lq
   ·simp only [hst, hσ1, mkE]
    exact ⟨[_, _, _, _], _, rfl, .inr (.inl rfl), .inl rfl, .inl rfl, .inr (.inl rfl), trivial⟩
 ·have hin : i = N := by omega
  subst hin
  rw [hm, hL]
  rcases zEk [.ent (mkE nl sp d1 e1)] 3 2 i 3 104 (zj L) with ⟨h0, hD, hσ⟩ | ⟨q, hq, hD, hσ⟩
  ·have hL0 : L = [] := List.length_eq_zero_iff.1 (by omega)
   subst hL0
   subst h0
   repeat' first | (with_reducible first | refine zA ?_ | refine zB ?_ | refine zm ?_ | refine zl ?_ | refine zF ?_ | refine zZ ?_) | ((with_reducible refine zC fun KC J hJ hKC => ?_); simp (maxSteps := 9999999) only [push_cast, seval, ↓reduceIte, hlt, hD, hσ, mkE]) | ((with_reducible refine hJ _ _ ?_); clear hJ hKC KC J) | ((with_reducible refine zH ?_ ?_); · rfl)
   refine zd ?_
   simp (maxSteps := 9999999) only [push_cast, seval, ↓reduceIte, show Tryz.f123.results = #[(.tmp 6)] from rfl]
   exact ⟨rfl, Lq⟩
  ·have hcI : zAh 3 (q + 1) (zj L) = zg L := by rw [← hq, ← hLl]; exact zEd L
   have hlC : (zj L).length = (q + 1) * 3 := by rw [zy, hLl, hq]
   have hbm : Nat.beq q q = true := Nat.beq_refl q
   simp only [hD, hσ, ek, List.cons_append, List.nil_append, mkE]
   repeat' first | (refine zU 3 3 rfl (by (simp (maxSteps := 9999999) only [push_cast, seval, ↓reduceIte]) <;> rfl) ?_; simp (maxSteps := 9999999) only [push_cast, seval, ↓reduceIte, zAK, zi, fr3, fr2, fr1, fr0, zq, zn, hlt, hD, hσ, ek, List.cons_append, List.nil_append, hcI, hlC, hbm, mkE]) | (with_reducible first | refine zA ?_ | refine zB ?_ | refine zm ?_ | refine zl ?_ | refine zF ?_ | refine zZ ?_) | ((with_reducible refine zC fun KC J hJ hKC => ?_); simp (maxSteps := 9999999) only [push_cast, seval, ↓reduceIte, hlt, hD, hσ, ek, List.cons_append, List.nil_append, hcI, hlC, hbm, mkE]) | ((with_reducible refine hJ _ _ ?_); clear hJ hKC KC J) | ((with_reducible refine zH ?_ ?_); · rfl)
   refine zd ?_
   simp (maxSteps := 9999999) only [push_cast, seval, ↓reduceIte, show Tryz.f123.results = #[(.tmp 6)] from rfl]
   exact ⟨rfl, Lq⟩
end Go.Proofs.YtabliglgeiajlaaGreat.AM
