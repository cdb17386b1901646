/- Walks and plain laws, put together: part 3. -/
import Derived.Test.YtabliglgeiajlaaGreatUnpickChoicesG0
import Derived.Test.YtabliglgeiajlaaGreatUnpickChoicesG2
import Derived.Test.YtabliglgeiajlaaGreatUnpickChoicesG1
import Derived.Test.YtabliglgeiajlaaGreatMc
set_option linter.unusedSimpArgs false
set_option linter.unusedVariables false
namespace Go.Proofs.YtabliglgeiajlaaGreat.AM
open Go Go.RowKit Go.Proofs
set_option maxRecDepth 100000
set_option maxHeartbeats 4000000
abbrev mkP (q : VQ) (k : Nat) (L : List Int) : Ent := ⟨0, none, 125, [.sl q.f 1 (zM q.ns), .sl q.g 1 (zL q.us), .v (.int .i64 q.sp.code), .v (.int .i64 q.sp.mem), .v (.int .i64 q.sp.stack), .v (.int .i64 q.sp.val), .sl false 1 (zK q.sp.ws), .v (.int .i64 (q.o : Int)), eR k L.length], .cells⟩
theorem zBs (m : Nat → Option Nat) (f : Bool) (z : Nat) (xs : List (List D)) : ren m (.sl f z xs) = .sl f z xs := rfl
theorem zCi (m : Nat → Option Nat) (x : Value) : ren m (.v x) = .v x := rfl
theorem zx (m : Nat → Option Nat) (g : Nat) (a : Option Nat) (t : TypeId) (c : List D) (k : Kd) : zT m (.ent ⟨g, a, t, c, k⟩) = .ent ⟨g, a, t, c.map (ren m), k⟩ := rfl
theorem zp {q : VQ} {L : List Int} {k0 kr : Nat} {σ : List Slot} (h0 : zBH σ k0 = .ent (mkP q kr L)) (h1 : zBH σ kr = zAw L) (hne : Nat.beq k0 kr = false) : pick [k0, kr] σ = [.ent (mkP q 1 L), zAw L] := by
 have hb : Nat.beq kr kr = true := Nat.beq_refl kr
 simp only [pick, List.map_cons, List.map_nil, h0, h1, zBd, zx, mkP, zBs, zCi, zDA, mOf, idx, hne, hb, zBJ, Nat.zero_add]
theorem zAQ (q : VQ) (L : List Int) (k0 kr slot : Nat) : zf [k0, kr, slot] [.ent (mkP q 1 L), zAw L] = [(k0, .ent (mkP q kr L)), (kr, zAw L)] := by
 simp only [zf, List.map_cons, List.map_nil, zBd, zx, mkP, zBs, zCi, zDA, zy, List.zip_cons_cons, List.zip_nil_right, List.getElem?_cons_succ, List.getElem?_cons_zero, zBJ]
theorem zFu {P : Program} {fn : Func} {st : St} {q : VQ} {L : List Int} (hr : fn.results = #[]) (h0 : zBH st.σ 0 = .ent (mkP q 1 L)) (h1 : zBH st.σ 1 = zAw L) : zIv P fn 2 (.tup []) [.ent (mkP q 1 L), zAw L] .normal st :=
 ⟨.inl rfl, [0, 1], True, .tup [], by unfold zHK; rw [hr]; rfl, trivial, by decide, fun k hk => by match k, hk with | 0, _ => rfl | 1, _ => rfl, zp h0 h1 rfl, zN _⟩
theorem zAM {L : List Int} {j : Nat} (h : L.length = j) : (zY L).take j = zY L := List.take_of_length_le (by rw [zZ]; omega)
theorem zAg (q : VQ) (L : List Int) (n : Int) (hL : L.length ≤ 1000) :
  Fn Tryz.prog 173 [.ptr 0 0 0, .v (.int .i64 n)] [.ent (mkP q 1 L), zAw L] (.tup []) [.ent (mkP q 1 (L ++ [n])), zAw (L ++ [n])] := by
 have hl : (L ++ [n]).length = L.length + 1 := by simp
 have hca : zY (L ++ [n]) = zY L ++ [.v (.int .i64 n)] := by rw [zAB]; rfl
 rw [zEc hl, hca]
 simp only [mkP]
 rw [hl, zHM]
 cases hn : L.length with
 | zero =>
  have hL0 := List.length_eq_zero_iff.1 hn
  subst hL0
  rw [zIV, zNT]
  refine Fn.of (fn := Tryz.f173) (by kernel_rfl) rfl (by kernel_rfl) ⟨[.ptr 0 0 0, .v (.int .i64 n), .v undef, .v undef, .v undef, .v undef, .v undef, .v undef, .v undef, .v undef, .v undef, .v undef, .v undef, .v undef], [.ent ⟨0, none, 125, [.sl q.f 1 (zM q.ns), .sl q.g 1 (zL q.us), .v (.int .i64 q.sp.code), .v (.int .i64 q.sp.mem), .v (.int .i64 q.sp.stack), .v (.int .i64 q.sp.val), .sl false 1 (zK q.sp.ws), .v (.int .i64 (q.o : Int)), .v (.slice none 0 0)], .cells⟩, .free]⟩ rfl ?_
  refine zDG 3 1 ?_
  repeat' first | ((with_reducible refine zC fun KC J hJ hKC => ?_); simp (maxSteps := 9999999) only [push_cast, seval, ↓reduceIte]) | ((with_reducible refine hJ _ _ ?_); clear hJ hKC KC J)
  exact ⟨⟨_, rfl⟩, rfl, zFu (q := q) (L := [n]) rfl rfl rfl⟩
 | succ j =>
  refine Fn.of (fn := Tryz.f173) (by kernel_rfl) rfl (by kernel_rfl) ⟨[.ptr 0 0 0, .v (.int .i64 n), .v undef, .v undef, .v undef, .v undef, .v undef, .v undef, .v undef, .v undef, .v undef, .v undef, .v undef, .v undef], [.ent ⟨0, none, 125, [.sl q.f 1 (zM q.ns), .sl q.g 1 (zL q.us), .v (.int .i64 q.sp.code), .v (.int .i64 q.sp.mem), .v (.int .i64 q.sp.stack), .v (.int .i64 q.sp.val), .sl false 1 (zK q.sp.ws), .v (.int .i64 (q.o : Int)), eR 1 (j + 1)], .cells⟩, zAw L]⟩ rfl ?_
  rw [zEc hn, zHM]
  have hc : (zY L).length = j + 1 := by rw [zZ, hn]
  have ht := zAM hn
  have hbq : Nat.beq j j = true := Nat.beq_refl j
  repeat' first | ((with_reducible refine And.intro ?_ ?_); · exact Sq) | ((with_reducible refine zC fun KC J hJ hKC => ?_); simp (maxSteps := 9999999) only [push_cast, seval, ↓reduceIte, hc, ht, hn, hbq, Nat.mul_one]) | ((with_reducible refine hJ _ _ ?_); clear hJ hKC KC J)
  refine zOz ?_
  simp (maxSteps := 9999999) only [push_cast, seval, ↓reduceIte, show Tryz.f173.results = #[] from rfl]
  refine ⟨?_, zN _⟩
  simp only [pick, show List.range 2 = [0, 1] from rfl, List.map_cons, List.map_nil, List.map_append, zBH, zx, zAL, zBs, zCi, mOf, idx]
  rfl
theorem zCt (q : VQ) (L : List Int) (v : Int) (hL : L.length ≤ 1000) :
  Fn Tryz.prog 172 [.ptr 0 0 0, .v (.int .i64 v)] [.ent (mkP q 1 L), zAw L] (.tup []) [.ent (mkP q 1 (L ++ [zCN q.sp v])), zAw (L ++ [zCN q.sp v])] := by
 have hu := zKz q.sp.val v
 have hk := zAg q L (zCN q.sp v) hL
 rw [show (zBC q.sp.val v).1 = zCN q.sp v from rfl] at hu
 obtain ⟨u, hU⟩ : ∃ u, zCN q.sp v = u := ⟨_, rfl⟩
 rw [hU] at hk hu ⊢
 obtain ⟨L1, hL1⟩ : ∃ l, L ++ [u] = l := ⟨_, rfl⟩
 rw [hL1] at hk ⊢
 refine Fn.of (fn := Tryz.f172) (by kernel_rfl) rfl (by kernel_rfl) ⟨[.ptr 0 0 0, .v (.int .i64 v), .v undef, .v undef, .v undef, .v undef, .v undef, .v undef, .v undef, .v undef, .v undef, .v undef, .v undef, .v undef, .v undef, .v undef, .v undef, .v undef, .v undef], [.ent (mkP q 1 L), zAw L]⟩ rfl ?_
 simp only [mkP] at hk ⊢
 repeat' first | (with_reducible first | refine zA ?_ | refine zB ?_) | ((first | with_reducible refine zC fun KC J hJ hKC => ?_ | (refine hKC _ _ _ _ _ (zw [0, 1] hk rfl rfl rfl (by decide) (by simp) rfl (zp rfl rfl rfl) Lq ?_)) | (refine hKC _ _ _ _ _ (zD (hu) rfl rfl rfl ?_ ?_); (· exact Lq))); simp (maxSteps := 9999999) only [push_cast, seval, ↓reduceIte, List.cons_append, List.nil_append, zAQ, mOf, idx]) | ((with_reducible refine hJ _ _ ?_); clear hJ hKC KC J)
 exact zFu rfl rfl rfl
theorem zHd (q : VQ) (L : List Int) (v : Int) (hL : L.length ≤ 1000) (hw : q.sp.ws.length ≤ 1000) :
  Fn Tryz.prog 174 [.ptr 0 0 0, .v (.int .i64 v)] [.ent (mkP q 1 L), zAw L] (.tup []) [.ent (mkP q 1 (L ++ [opU q.sp v])), zAw (L ++ [opU q.sp v])] := by
 have hu := zPl false q.sp.ws v (by omega)
 have hk := zAg q L (opU q.sp v) hL
 rw [show (zCx q.sp.ws v).1 = opU q.sp v from rfl] at hu
 obtain ⟨u, hU⟩ : ∃ u, opU q.sp v = u := ⟨_, rfl⟩
 rw [hU] at hk hu ⊢
 obtain ⟨L1, hL1⟩ : ∃ l, L ++ [u] = l := ⟨_, rfl⟩
 rw [hL1] at hk ⊢
 refine Fn.of (fn := Tryz.f174) (by kernel_rfl) rfl (by kernel_rfl) ⟨[.ptr 0 0 0, .v (.int .i64 v), .v undef, .v undef, .v undef, .v undef, .v undef, .v undef, .v undef, .v undef, .v undef, .v undef, .v undef, .v undef, .v undef, .v undef, .v undef, .v undef, .v undef], [.ent (mkP q 1 L), zAw L]⟩ rfl ?_
 simp only [mkP] at hk ⊢
 repeat' first | (with_reducible first | refine zA ?_ | refine zB ?_) | ((first | with_reducible refine zC fun KC J hJ hKC => ?_ | (refine hKC _ _ _ _ _ (zw [0, 1] hk rfl rfl rfl (by decide) (by simp) rfl (zp rfl rfl rfl) Lq ?_)) | (refine hKC _ _ _ _ _ (zD (hu) rfl rfl rfl ?_ ?_); (· exact Lq))); simp (maxSteps := 9999999) only [push_cast, seval, ↓reduceIte, List.cons_append, List.nil_append, zAQ, mOf, idx]) | ((with_reducible refine hJ _ _ ?_); clear hJ hKC KC J)
 exact zFu rfl rfl rfl
theorem zEe (q : VQ) (L : List Int) (x : Bool × Int × Int) (hL : L.length ≤ 1000) :
  Fn Tryz.prog 176 [.ptr 0 0 0, .agg [.v (.bool x.1), .v (.int .i64 x.2.1), .v (.int .i64 x.2.2)]] [.ent (mkP q 1 L), zAw L] (.tup []) [.ent (mkP q 1 (L ++ [zCl q.sp x])), zAw (L ++ [zCl q.sp x])] := by
 obtain ⟨r, v, l⟩ := x
 unfold zCl
 cases r
 ·have hk := zCt q L v hL
  rw [if_neg (by simp)]
  simp only
  obtain ⟨L1, hL1⟩ : ∃ l, L ++ [zCN q.sp v] = l := ⟨_, rfl⟩
  rw [hL1] at hk ⊢
  refine Fn.of (fn := Tryz.f176) (by kernel_rfl) rfl (by kernel_rfl) ⟨[.ptr 0 0 0, .agg [.v (.bool false), .v (.int .i64 v), .v (.int .i64 l)], .v undef, .v undef, .v undef, .v undef, .v undef, .v undef, .v undef, .v undef, .v undef, .v undef, .v undef, .v undef], [.ent (mkP q 1 L), zAw L]⟩ rfl ?_
  simp only [mkP] at hk ⊢
  repeat' first | (with_reducible first | refine zA ?_ | refine zB ?_) | ((first | with_reducible refine zC fun KC J hJ hKC => ?_ | (refine hKC _ _ _ _ _ (zw [0, 1] hk rfl rfl rfl (by decide) (by simp) rfl (zp rfl rfl rfl) Lq ?_))); simp (maxSteps := 9999999) only [push_cast, seval, ↓reduceIte, List.cons_append, List.nil_append, zAQ, mOf, idx]) | ((with_reducible refine hJ _ _ ?_); clear hJ hKC KC J) | ((with_reducible refine zH ?_ ?_); · rfl)
  exact zFu rfl rfl rfl
 ·have hk := zAg q L v hL
  rw [if_pos rfl]
  simp only
  obtain ⟨L1, hL1⟩ : ∃ l, L ++ [v] = l := ⟨_, rfl⟩
  rw [hL1] at hk ⊢
  refine Fn.of (fn := Tryz.f176) (by kernel_rfl) rfl (by kernel_rfl) ⟨[.ptr 0 0 0, .agg [.v (.bool true), .v (.int .i64 v), .v (.int .i64 l)], .v undef, .v undef, .v undef, .v undef, .v undef, .v undef, .v undef, .v undef, .v undef, .v undef, .v undef, .v undef], [.ent (mkP q 1 L), zAw L]⟩ rfl ?_
  simp only [mkP] at hk ⊢
  repeat' first | (with_reducible first | refine zA ?_ | refine zB ?_) | ((first | with_reducible refine zC fun KC J hJ hKC => ?_ | (refine hKC _ _ _ _ _ (zw [0, 1] hk rfl rfl rfl (by decide) (by simp) rfl (zp rfl rfl rfl) Lq ?_))); simp (maxSteps := 9999999) only [push_cast, seval, ↓reduceIte, List.cons_append, List.nil_append, zAQ, mOf, idx]) | ((with_reducible refine hJ _ _ ?_); clear hJ hKC KC J) | ((with_reducible refine zF ?_ ?_); · rfl)
  exact zFu rfl rfl rfl
theorem zNY (q : VQ) (L : List Int) (x : Bool × Int × Int) (hL : L.length ≤ 1000) :
  Fn Tryz.prog 175 [.ptr 0 0 0, .agg [.v (.bool x.1), .v (.int .i64 x.2.1), .v (.int .i64 x.2.2)]] [.ent (mkP q 1 L), zAw L] (.tup []) [.ent (mkP q 1 (L ++ [zFM x])), zAw (L ++ [zFM x])] := by
 obtain ⟨r, v, l⟩ := x
 unfold zFM
 cases r
 ·have hk := zAg q L 0 hL
  rw [if_neg (by simp)]
  obtain ⟨L1, hL1⟩ : ∃ l, L ++ [0] = l := ⟨_, rfl⟩
  rw [hL1] at hk ⊢
  refine Fn.of (fn := Tryz.f175) (by kernel_rfl) rfl (by kernel_rfl) ⟨[.ptr 0 0 0, .agg [.v (.bool false), .v (.int .i64 v), .v (.int .i64 l)], .v undef, .v undef, .v undef, .v undef, .v undef, .v undef, .v undef, .v undef], [.ent (mkP q 1 L), zAw L]⟩ rfl ?_
  simp only [mkP] at hk ⊢
  repeat' first | (with_reducible first | refine zA ?_ | refine zB ?_) | ((first | with_reducible refine zC fun KC J hJ hKC => ?_ | (refine hKC _ _ _ _ _ (zw [0, 1] hk rfl rfl rfl (by decide) (by simp) rfl (zp rfl rfl rfl) Lq ?_))); simp (maxSteps := 9999999) only [push_cast, seval, ↓reduceIte, List.cons_append, List.nil_append, zAQ, mOf, idx]) | ((with_reducible refine hJ _ _ ?_); clear hJ hKC KC J) | ((with_reducible refine zH ?_ ?_); · rfl)
  exact zFu rfl rfl rfl
 ·have hk := zAg q L 1 hL
  rw [if_pos rfl]
  obtain ⟨L1, hL1⟩ : ∃ l, L ++ [1] = l := ⟨_, rfl⟩
  rw [hL1] at hk ⊢
  refine Fn.of (fn := Tryz.f175) (by kernel_rfl) rfl (by kernel_rfl) ⟨[.ptr 0 0 0, .agg [.v (.bool true), .v (.int .i64 v), .v (.int .i64 l)], .v undef, .v undef, .v undef, .v undef, .v undef, .v undef, .v undef, .v undef], [.ent (mkP q 1 L), zAw L]⟩ rfl ?_
  simp only [mkP] at hk ⊢
  repeat' first | (with_reducible first | refine zA ?_ | refine zB ?_) | ((first | with_reducible refine zC fun KC J hJ hKC => ?_ | (refine hKC _ _ _ _ _ (zw [0, 1] hk rfl rfl rfl (by decide) (by simp) rfl (zp rfl rfl rfl) Lq ?_))); simp (maxSteps := 9999999) only [push_cast, seval, ↓reduceIte, List.cons_append, List.nil_append, zAQ, mOf, idx]) | ((with_reducible refine hJ _ _ ?_); clear hJ hKC KC J) | ((with_reducible refine zF ?_ ?_); · rfl)
  exact zFu rfl rfl rfl
theorem zSz {P : Program} {fn : Func} {st : St} {q : VQ} {L : List Int} {d : D} (hr : match zHK P fn st with | some (c, x) => c ∧ leD (ren (mOf [0, 1]) x) d | none => False) (h0 : zBH st.σ 0 = .ent (mkP q 1 L)) (h1 : zBH st.σ 1 = zAw L) : zIv P fn 2 d [.ent (mkP q 1 L), zAw L] .ret st := by
 split at hr
 ·rename_i c x hx
  exact ⟨.inr rfl, [0, 1], c, x, hx, hr.1, by decide, fun k hk => by match k, hk with | 0, _ => rfl | 1, _ => rfl, zp h0 h1 rfl, hr.2⟩
 ·exact hr.elim
theorem zCW (q : VQ) (hq : VOk q) (L : List Int) (a : Int) (ha : zn q.us.length a = false) :
  Fn Tryz.prog 177 [.ptr 0 0 0, .v (.int .i64 a)] [.ent (mkP q 1 L), zAw L] (.v (.bool (hid q.us q.o a))) [.ent (mkP q 1 L), zAw L] := by
 obtain ⟨b, rfl, hb⟩ := zAP ha
 have hf := zJh q.f q.g q.ns q.us b q.o hq.szs hq.u32 hq.chk hb hq.lab
 unfold hid
 rw [Int.toNat_natCast]
 refine Fn.of (fn := Tryz.f177) (by kernel_rfl) rfl (by kernel_rfl) ⟨[.ptr 0 0 0, .v (.int .i64 (b : Int)), .v undef, .v undef, .v undef, .v undef, .v undef, .v undef, .v undef, .v undef, .v undef, .v undef, .v undef, .v undef, .v undef, .v undef, .v undef, .v undef, .v undef, .v undef, .v undef, .v undef], [.ent (mkP q 1 L), zAw L]⟩ rfl ?_
 simp only [mkP]
 repeat' first | (with_reducible first | refine zA ?_ | refine zB ?_) | ((first | with_reducible refine zC fun KC J hJ hKC => ?_ | with_reducible refine zU rfl fun KC J hJ hKC => ?_ | (refine hKC _ _ _ _ _ (zD (hf) rfl rfl rfl ?_ ?_); (· exact Lq))); simp (maxSteps := 9999999) only [push_cast, seval, ↓reduceIte]) | ((first | with_reducible refine hJ _ _ ?_ | (with_reducible refine hJ _ _ ?_ ?_; · kernel_rfl)); clear hJ hKC KC J)
 refine zI ?_
 refine zSz ?_ rfl rfl
 simp (maxSteps := 9999999) only [push_cast, seval, ↓reduceIte, show Tryz.f177.results = #[.tmp 4] from rfl]
 exact zN _
theorem zBW {α : Type} {f : α → List Int} {l : List α} {i : Nat} {x : α} (h : l[i]? = some x) : (l.take (i + 1)).flatMap f = (l.take i).flatMap f ++ f x := by
 obtain ⟨hi, rfl⟩ := List.getElem?_eq_some_iff.1 h
 rw [List.take_succ_eq_append_getElem hi, List.flatMap_append]
 simp only [List.flatMap_cons, List.flatMap_nil, List.append_nil]
theorem zAG {α : Type} {f : α → List Int} (h : ∀ x, (f x).length ≤ 3) : ∀ l : List α, (l.flatMap f).length ≤ 3 * l.length
 | [] => by simp
 | x :: l => by
  have := zAG h l
  have := h x
  rw [List.flatMap_cons, List.length_append, List.length_cons]
  omega
theorem zGD (sp : Sp) (x : Int × Int × Int) : (zAz sp x).length ≤ 3 := by
 unfold zAz; split
 ·simp
 ·split <;> simp
theorem zEK (sp : Sp) (x : Int × Int) : (zBb sp x).length ≤ 3 := by simp [zBb]
theorem zET (sp : Sp) (x : Bool × Int × Int) : (zBc sp x).length ≤ 3 := by simp [zBc]
theorem zOU (q : VQ) (f1 f2 f3 f4 : Bool) (s : Sta) (hw : q.sp.ws.length ≤ 1000) (h1 : s.code.length ≤ 50) (h2 : s.mem.length ≤ 50) (h3 : s.stack.length ≤ 50) :
  Fn Tryz.prog 78 [.ptr 0 0 0, .agg (zAN f1 f2 f3 f4 s)] [.ent (mkP q 1 []), .free] (.tup []) [.ent (mkP q 1 (zBY q.sp s)), zAw (zBY q.sp s)] := by
 have k0 := zAg q [] s.code.length (by simp)
 rw [List.nil_append, zIV] at k0
 obtain ⟨L0, hL0⟩ : ∃ l, [(s.code.length : Int)] = l := ⟨_, rfl⟩
 have hl0 : L0.length = 1 := by rw [← hL0]; rfl
 rw [hL0] at k0
 have hfin : zBY q.sp s = (((L0 ++ s.code.flatMap (zAz q.sp) ++ [(s.mem.length : Int)]) ++ s.mem.flatMap (zBb q.sp) ++ [(s.stack.length : Int)]) ++ s.stack.flatMap (zBc q.sp) ++ [s.v]) ++ [s.l] := by
  rw [← hL0]; simp [zBY]
 rw [hfin]
 simp only [zAN]
 refine Fn.of (fn := Tryz.f78) (by kernel_rfl) rfl (by kernel_rfl) ⟨[.ptr 0 0 0, .agg [.v (.int .i64 s.v), .v (.int .i64 s.l), .sl f1 3 (zh s.code), .sl f2 2 (zR s.mem), .sl f3 3 (zc s.stack), .sl f4 2 (zR s.out)], .v undef, .v undef, .v undef, .v undef, .v undef, .v undef, .v undef, .v undef, .v undef, .v undef, .v undef, .v undef, .v undef, .v undef, .v undef, .v undef, .v undef, .v undef, .v undef, .v undef, .v undef, .v undef, .v undef, .v undef, .v undef, .v undef, .v undef, .v undef, .v undef, .v undef, .v undef, .v undef, .v undef, .v undef, .v undef, .v undef, .v undef, .v undef, .v undef, .v undef, .v undef, .v undef, .v undef, .v undef, .v undef, .v undef, .v undef, .v undef, .v undef, .v undef, .v undef, .v undef, .v undef, .v undef, .v undef, .v undef, .v undef, .v undef, .v undef, .v undef, .v undef, .v undef, .v undef, .v undef, .v undef, .v undef, .v undef, .v undef, .v undef, .v undef, .v undef, .v undef, .v undef, .v undef, .v undef, .v undef, .v undef, .v undef, .v undef, .v undef, .v undef, .v undef, .v undef, .v undef, .v undef, .v undef, .v undef, .v undef, .v undef, .v undef, .v undef, .v undef, .v undef, .v undef, .v undef, .v undef, .v undef, .v undef, .v undef, .v undef, .v undef, .v undef, .v undef, .v undef, .v undef, .v undef, .v undef, .v undef, .v undef, .v undef, .v undef], [.ent (mkP q 1 []), .free]⟩ rfl ?_
 simp only [mkP] at k0 ⊢
 repeat' first | (with_reducible first | refine zA ?_ | refine zB ?_ | refine zG ?_) | ((first | with_reducible refine zC fun KC J hJ hKC => ?_ | (refine hKC _ _ _ _ _ (zw [0, 1] k0 rfl rfl rfl (by decide) (by simp) rfl rfl Lq ?_))); simp (maxSteps := 9999999) only [push_cast, seval, ↓reduceIte, List.cons_append, List.nil_append, zAQ, mOf, idx]) | ((with_reducible refine hJ _ _ ?_); clear hJ hKC KC J)
 refine zi 4 (γ := {i : Nat // i ≤ s.code.length}) (fun i => ⟨[.ptr 0 0 0, .any, .any, .ptr 2 0 0, .kref true 3 0, .any, .any, .any, .any, .any, .any, .any, .any, .any, .any, .any, .any, .any, .any, .any, .any, .any, .any, .any, .any, .any, .any, .any, .any, .sl f1 3 (zh s.code), .v (.int .i64 s.code.length), .v (.int .i64 i.1), .any, .any, .any, .any, .any, .any, .any, .any, .any, .any, .any, .any, .any, .any, .any, .any, .any, .any, .any, .any, .any, .any, .any, .any, .any, .any, .any, .any, .any, .any, .any, .any, .any, .any, .any, .any, .any, .any, .any, .any, .any, .any, .any, .any, .any, .any, .any, .any, .any, .any, .any, .any, .any, .any, .any, .any, .any, .any, .any, .any, .any, .any, .any, .any, .any, .any, .any, .any, .any, .any, .any, .any, .any, .any, .any, .any, .any, .any, .any, .any, .any], [.ent (mkP q 1 (L0 ++ (s.code.take i.1).flatMap (zAz q.sp))), zAw (L0 ++ (s.code.take i.1).flatMap (zAz q.sp)), .ent ⟨0, none, 39, [.v (.int .i64 s.v), .v (.int .i64 s.l), .sl f1 3 (zh s.code), .sl f2 2 (zR s.mem), .sl f3 3 (zc s.stack), .sl f4 2 (zR s.out)], .cells⟩, .ent ⟨0, none, 234, [.bnd 172 [.ptr 0 0 0], .bnd 173 [.ptr 0 0 0], .bnd 173 [.ptr 0 0 0], .bnd 173 [.ptr 0 0 0]], .map [.int .i64 1, .int .i64 8, .int .i64 9, .int .i64 10]⟩]⟩) (fun i => s.code.length - i.1) ⟨0, by omega⟩ (fun i => rfl) (fun i => ?_) (fun i => rfl) ⟨?_, ?_⟩ ?_
 ·refine zr ?_
  simp only [List.map_cons, List.map_nil, zx, zBd, zBs, zCi, zDA, show mOf (List.range 4) 1 = some 1 from rfl, zBJ]
  rfl
 ·exact Lq
 ·simp only [List.take_zero, List.flatMap_nil, List.append_nil]
  exact Fq
 rintro ⟨i, hi⟩
 dsimp only
 by_cases hlt : (i : Int) < (s.code.length : Int)
 ·have hx : s.code[i]? = some s.code[i] := List.getElem?_eq_getElem (by omega)
  obtain ⟨x, hx0⟩ : ∃ x, s.code[i] = x := ⟨_, rfl⟩
  rw [hx0] at hx
  have hst : L0 ++ (s.code.take (i + 1)).flatMap (zAz q.sp) = (L0 ++ (s.code.take i).flatMap (zAz q.sp)) ++ zAz q.sp x := by rw [zBW hx, List.append_assoc]
  have hwn := zb (i := i) (n := s.code.length) (by omega) (by omega)
  have hLl : (L0 ++ (s.code.take i).flatMap (zAz q.sp)).length ≤ 300 := by
   have hb := zAG (zGD q.sp) (s.code.take i)
   rw [List.length_take] at hb
   simp only [List.length_append, List.length_cons, List.length_nil]
   omega
  obtain ⟨L, hL⟩ : ∃ L, L0 ++ (s.code.take i).flatMap (zAz q.sp) = L := ⟨_, rfl⟩
  rw [hL] at hst hLl ⊢
  obtain ⟨c, v, a⟩ := x
  have hge := zAp hx
  simp only at hge
  by_cases e1 : c = 1
  ·subst e1
   rw [show zAz q.sp (1, v, a) = [opU q.sp 1, zCN q.sp v, a] from rfl] at hst
   have g1 := zHd q L 1 (by omega) hw
   obtain ⟨L1, hL1⟩ : ∃ l, L ++ [opU q.sp 1] = l := ⟨_, rfl⟩
   have lL1 : L1.length = L.length + 1 := by rw [← hL1]; simp
   rw [hL1] at g1
   have g2 := zCt q L1 v (by omega)
   obtain ⟨L2, hL2⟩ : ∃ l, L1 ++ [zCN q.sp v] = l := ⟨_, rfl⟩
   have lL2 : L2.length = L1.length + 1 := by rw [← hL2]; simp
   rw [hL2] at g2
   have g3 := zAg q L2 a (by omega)
   obtain ⟨L3, hL3⟩ : ∃ l, L2 ++ [a] = l := ⟨_, rfl⟩
   have lL3 : L3.length = L2.length + 1 := by rw [← hL3]; simp
   rw [hL3] at g3
   have hnew : L ++ [opU q.sp 1, zCN q.sp v, a] = L3 := by rw [← hL3, ← hL2, ← hL1]; try simp only [List.append_assoc, List.cons_append, List.nil_append]
   rw [hnew] at hst
   simp only [mkP] at g1 g2 g3 ⊢
   repeat' first | (with_reducible first | refine zA ?_ | refine zB ?_ | refine zO ?_ | refine zJ ?_ | refine zG ?_) | ((with_reducible refine And.intro ?_ ?_); · exact Sq) | ((first | with_reducible refine zC fun KC J hJ hKC => ?_ | (refine hKC _ _ _ _ _ (zw [0, 1] g1 rfl rfl rfl (by decide) (by simp) rfl (zp rfl rfl rfl) Lq ?_)) | (refine hKC _ _ _ _ _ (zNs [0, 1] g2 rfl rfl rfl (by decide) (by simp) rfl (zp rfl rfl rfl) Lq ?_)) | (refine hKC _ _ _ _ _ (zw [0, 1] g3 rfl rfl rfl (by decide) (by simp) rfl (zp rfl rfl rfl) Lq ?_))); simp (maxSteps := 9999999) only [push_cast, seval, ↓reduceIte, hlt, hge, hwn, beq_self_eq_true, List.cons_append, List.nil_append, zAQ, mOf, idx]) | ((with_reducible refine hJ _ _ ?_); clear hJ hKC KC J) | ((with_reducible refine zF ?_ ?_); · rfl)
   refine ⟨⟨i + 1, by omega⟩, by simp only; omega, ?_, ?_⟩
   ·exact Lq
   ·simp only [hst]; exact ⟨_, rfl⟩
  have e1' : (c == 1) = false := by simpa using e1
  by_cases e8 : c = 8
  ·subst e8
   rw [show zAz q.sp (8, v, a) = [opU q.sp 8, v] from rfl] at hst
   have g1 := zHd q L 8 (by omega) hw
   obtain ⟨L1, hL1⟩ : ∃ l, L ++ [opU q.sp 8] = l := ⟨_, rfl⟩
   have lL1 : L1.length = L.length + 1 := by rw [← hL1]; simp
   rw [hL1] at g1
   have g2 := zAg q L1 v (by omega)
   obtain ⟨L2, hL2⟩ : ∃ l, L1 ++ [v] = l := ⟨_, rfl⟩
   have lL2 : L2.length = L1.length + 1 := by rw [← hL2]; simp
   rw [hL2] at g2
   have hnew : L ++ [opU q.sp 8, v] = L2 := by rw [← hL2, ← hL1]; try simp only [List.append_assoc, List.cons_append, List.nil_append]
   rw [hnew] at hst
   simp only [mkP] at g1 g2 ⊢
   repeat' first | (with_reducible first | refine zA ?_ | refine zB ?_ | refine zO ?_ | refine zJ ?_ | refine zG ?_) | ((with_reducible refine And.intro ?_ ?_); · exact Sq) | ((first | with_reducible refine zC fun KC J hJ hKC => ?_ | (refine hKC _ _ _ _ _ (zw [0, 1] g1 rfl rfl rfl (by decide) (by simp) rfl (zp rfl rfl rfl) Lq ?_)) | (refine hKC _ _ _ _ _ (zNs [0, 1] g2 rfl rfl rfl (by decide) (by simp) rfl (zp rfl rfl rfl) Lq ?_))); simp (maxSteps := 9999999) only [push_cast, seval, ↓reduceIte, hlt, hge, hwn, beq_self_eq_true, List.cons_append, List.nil_append, zAQ, mOf, idx]) | ((with_reducible refine hJ _ _ ?_); clear hJ hKC KC J) | ((with_reducible refine zF ?_ ?_); · rfl) | ((with_reducible refine zH ?_ ?_); · rfl)
   refine ⟨⟨i + 1, by omega⟩, by simp only; omega, ?_, ?_⟩
   ·exact Lq
   ·simp only [hst]; exact ⟨_, rfl⟩
  have e8' : (c == 8) = false := by simpa using e8
  by_cases e9 : c = 9
  ·subst e9
   rw [show zAz q.sp (9, v, a) = [opU q.sp 9, v] from rfl] at hst
   have g1 := zHd q L 9 (by omega) hw
   obtain ⟨L1, hL1⟩ : ∃ l, L ++ [opU q.sp 9] = l := ⟨_, rfl⟩
   have lL1 : L1.length = L.length + 1 := by rw [← hL1]; simp
   rw [hL1] at g1
   have g2 := zAg q L1 v (by omega)
   obtain ⟨L2, hL2⟩ : ∃ l, L1 ++ [v] = l := ⟨_, rfl⟩
   have lL2 : L2.length = L1.length + 1 := by rw [← hL2]; simp
   rw [hL2] at g2
   have hnew : L ++ [opU q.sp 9, v] = L2 := by rw [← hL2, ← hL1]; try simp only [List.append_assoc, List.cons_append, List.nil_append]
   rw [hnew] at hst
   simp only [mkP] at g1 g2 ⊢
   repeat' first | (with_reducible first | refine zA ?_ | refine zB ?_ | refine zO ?_ | refine zJ ?_ | refine zG ?_) | ((with_reducible refine And.intro ?_ ?_); · exact Sq) | ((first | with_reducible refine zC fun KC J hJ hKC => ?_ | (refine hKC _ _ _ _ _ (zw [0, 1] g1 rfl rfl rfl (by decide) (by simp) rfl (zp rfl rfl rfl) Lq ?_)) | (refine hKC _ _ _ _ _ (zNs [0, 1] g2 rfl rfl rfl (by decide) (by simp) rfl (zp rfl rfl rfl) Lq ?_))); simp (maxSteps := 9999999) only [push_cast, seval, ↓reduceIte, hlt, hge, hwn, beq_self_eq_true, List.cons_append, List.nil_append, zAQ, mOf, idx]) | ((with_reducible refine hJ _ _ ?_); clear hJ hKC KC J) | ((with_reducible refine zF ?_ ?_); · rfl) | ((with_reducible refine zH ?_ ?_); · rfl)
   refine ⟨⟨i + 1, by omega⟩, by simp only; omega, ?_, ?_⟩
   ·exact Lq
   ·simp only [hst]; exact ⟨_, rfl⟩
  have e9' : (c == 9) = false := by simpa using e9
  by_cases e10 : c = 10
  ·subst e10
   rw [show zAz q.sp (10, v, a) = [opU q.sp 10, v] from rfl] at hst
   have g1 := zHd q L 10 (by omega) hw
   obtain ⟨L1, hL1⟩ : ∃ l, L ++ [opU q.sp 10] = l := ⟨_, rfl⟩
   have lL1 : L1.length = L.length + 1 := by rw [← hL1]; simp
   rw [hL1] at g1
   have g2 := zAg q L1 v (by omega)
   obtain ⟨L2, hL2⟩ : ∃ l, L1 ++ [v] = l := ⟨_, rfl⟩
   have lL2 : L2.length = L1.length + 1 := by rw [← hL2]; simp
   rw [hL2] at g2
   have hnew : L ++ [opU q.sp 10, v] = L2 := by rw [← hL2, ← hL1]; try simp only [List.append_assoc, List.cons_append, List.nil_append]
   rw [hnew] at hst
   simp only [mkP] at g1 g2 ⊢
   repeat' first | (with_reducible first | refine zA ?_ | refine zB ?_ | refine zO ?_ | refine zJ ?_ | refine zG ?_) | ((with_reducible refine And.intro ?_ ?_); · exact Sq) | ((first | with_reducible refine zC fun KC J hJ hKC => ?_ | (refine hKC _ _ _ _ _ (zw [0, 1] g1 rfl rfl rfl (by decide) (by simp) rfl (zp rfl rfl rfl) Lq ?_)) | (refine hKC _ _ _ _ _ (zNs [0, 1] g2 rfl rfl rfl (by decide) (by simp) rfl (zp rfl rfl rfl) Lq ?_))); simp (maxSteps := 9999999) only [push_cast, seval, ↓reduceIte, hlt, hge, hwn, beq_self_eq_true, List.cons_append, List.nil_append, zAQ, mOf, idx]) | ((with_reducible refine hJ _ _ ?_); clear hJ hKC KC J) | ((with_reducible refine zF ?_ ?_); · rfl) | ((with_reducible refine zH ?_ ?_); · rfl)
   refine ⟨⟨i + 1, by omega⟩, by simp only; omega, ?_, ?_⟩
   ·exact Lq
   ·simp only [hst]; exact ⟨_, rfl⟩
  have e10' : (c == 10) = false := by simpa using e10
  rw [show zAz q.sp (c, v, a) = [opU q.sp c] by unfold zAz; simp only [if_neg e1, if_neg (show ¬ (c = 8 ∨ c = 9 ∨ c = 10) from fun h => by rcases h with h | h | h <;> contradiction)]] at hst
  have g1 := zHd q L c (by omega) hw
  obtain ⟨L1, hL1⟩ : ∃ l, L ++ [opU q.sp c] = l := ⟨_, rfl⟩
  have lL1 : L1.length = L.length + 1 := by rw [← hL1]; simp
  rw [hL1] at g1
  have hnew : L ++ [opU q.sp c] = L1 := by rw [← hL1]; try simp only [List.append_assoc, List.cons_append, List.nil_append]
  rw [hnew] at hst
  simp only [mkP] at g1 ⊢
  repeat' first | (with_reducible first | refine zA ?_ | refine zB ?_ | refine zO ?_ | refine zJ ?_ | refine zG ?_) | ((with_reducible refine And.intro ?_ ?_); · exact Sq) | ((first | with_reducible refine zC fun KC J hJ hKC => ?_ | (refine hKC _ _ _ _ _ (zw [0, 1] g1 rfl rfl rfl (by decide) (by simp) rfl (zp rfl rfl rfl) Lq ?_))); simp (maxSteps := 9999999) only [push_cast, seval, ↓reduceIte, hlt, hge, hwn, e1', e8', e9', e10', List.cons_append, List.nil_append, zAQ, mOf, idx]) | ((with_reducible refine hJ _ _ ?_); clear hJ hKC KC J) | ((with_reducible refine zF ?_ ?_); · rfl) | ((with_reducible refine zH ?_ ?_); · rfl)
  refine ⟨⟨i + 1, by omega⟩, by simp only; omega, ?_, ?_⟩
  ·exact Lq
  ·simp only [hst]; exact ⟨_, rfl⟩
 have hin : i = s.code.length := by omega
 have hend : L0 ++ (s.code.take i).flatMap (zAz q.sp) = L0 ++ s.code.flatMap (zAz q.sp) := by rw [hin, List.take_length]
 rw [hend]
 obtain ⟨A1, hA1⟩ : ∃ l, L0 ++ s.code.flatMap (zAz q.sp) = l := ⟨_, rfl⟩
 have lA1 : A1.length ≤ L0.length + 3 * s.code.length := by
  have hb := zAG (zGD q.sp) s.code
  rw [← hA1, List.length_append]; omega
 have k1 := zAg q A1 (s.mem.length : Int) (by omega)
 rw [hA1] at ⊢
 obtain ⟨A2, hA2⟩ : ∃ l, A1 ++ [(s.mem.length : Int)] = l := ⟨_, rfl⟩
 have lA2 : A2.length = A1.length + 1 := by rw [← hA2]; simp
 rw [hA2] at k1
 simp only [mkP, hA2] at k1 ⊢
 repeat' first | (with_reducible first | refine zA ?_ | refine zB ?_ | refine zX ?_ | refine zW ?_ | refine zQ ?_ | refine zG ?_) | ((first | with_reducible refine zC fun KC J hJ hKC => ?_ | (refine hKC _ _ _ _ _ (zw [0, 1] k1 rfl rfl rfl (by decide) (by simp) rfl (zp rfl rfl rfl) Lq ?_))); simp (maxSteps := 9999999) only [push_cast, seval, ↓reduceIte, hlt, Int.lt_irrefl, List.cons_append, List.nil_append, zAQ, mOf, idx]) | ((with_reducible refine hJ _ _ ?_); clear hJ hKC KC J) | ((with_reducible refine zH ?_ ?_); · rfl)
 refine zi 4 (γ := {i : Nat // i ≤ s.mem.length}) (fun i => ⟨[.ptr 0 0 0, .any, .any, .ptr 2 0 0, .kref true 3 0, .any, .any, .any, .any, .any, .any, .any, .any, .any, .any, .any, .any, .any, .any, .any, .any, .any, .any, .any, .any, .any, .any, .any, .any, .any, .any, .any, .any, .any, .any, .any, .any, .any, .any, .any, .any, .any, .any, .any, .any, .any, .any, .any, .any, .any, .any, .any, .any, .any, .any, .any, .any, .any, .any, .any, .any, .any, .any, .any, .any, .sl f2 2 (zR s.mem), .v (.int .i64 s.mem.length), .v (.int .i64 i.1), .any, .any, .any, .any, .any, .any, .any, .any, .any, .any, .any, .any, .any, .any, .any, .any, .any, .any, .any, .any, .any, .any, .any, .any, .any, .any, .any, .any, .any, .any, .any, .any, .any, .any, .any, .any, .any, .any, .any, .any, .any, .any, .any, .any, .any], [.ent (mkP q 1 (A2 ++ (s.mem.take i.1).flatMap (zBb q.sp))), zAw (A2 ++ (s.mem.take i.1).flatMap (zBb q.sp)), .ent ⟨0, none, 39, [.v (.int .i64 s.v), .v (.int .i64 s.l), .sl f1 3 (zh s.code), .sl f2 2 (zR s.mem), .sl f3 3 (zc s.stack), .sl f4 2 (zR s.out)], .cells⟩, .ent ⟨0, none, 234, [.bnd 172 [.ptr 0 0 0], .bnd 173 [.ptr 0 0 0], .bnd 173 [.ptr 0 0 0], .bnd 173 [.ptr 0 0 0]], .map [.int .i64 1, .int .i64 8, .int .i64 9, .int .i64 10]⟩]⟩) (fun i => s.mem.length - i.1) ⟨0, by omega⟩ (fun i => rfl) (fun i => ?_) (fun i => rfl) ⟨?_, ?_⟩ ?_
 ·refine zr ?_
  simp only [List.map_cons, List.map_nil, zx, zBd, zBs, zCi, zDA, show mOf (List.range 4) 1 = some 1 from rfl, zBJ]
  rfl
 ·exact Lq
 ·simp only [List.take_zero, List.flatMap_nil, List.append_nil]
  exact Fq
 rintro ⟨i, hi⟩
 dsimp only
 by_cases hlt : (i : Int) < (s.mem.length : Int)
 ·have hx : s.mem[i]? = some s.mem[i] := List.getElem?_eq_getElem (by omega)
  obtain ⟨x, hx0⟩ : ∃ x, s.mem[i] = x := ⟨_, rfl⟩
  rw [hx0] at hx
  have hst : A2 ++ (s.mem.take (i + 1)).flatMap (zBb q.sp) = (A2 ++ (s.mem.take i).flatMap (zBb q.sp)) ++ zBb q.sp x := by rw [zBW hx, List.append_assoc]
  have hwn := zb (i := i) (n := s.mem.length) (by omega) (by omega)
  have hLl : (A2 ++ (s.mem.take i).flatMap (zBb q.sp)).length ≤ 520 := by
   have hb := zAG (zEK q.sp) (s.mem.take i)
   rw [List.length_take] at hb
   simp only [List.length_append, List.length_cons, List.length_nil]
   omega
  obtain ⟨L, hL⟩ : ∃ L, A2 ++ (s.mem.take i).flatMap (zBb q.sp) = L := ⟨_, rfl⟩
  rw [hL] at hst hLl ⊢
  obtain ⟨v, a⟩ := x
  have hge := zAK hx
  simp only at hge
  rw [show zBb q.sp (v, a) = [zCN q.sp v, a] from rfl] at hst
  have g1 := zCt q L v (by omega)
  obtain ⟨L1, hL1⟩ : ∃ l, L ++ [zCN q.sp v] = l := ⟨_, rfl⟩
  have lL1 : L1.length = L.length + 1 := by rw [← hL1]; simp
  rw [hL1] at g1
  have g2 := zAg q L1 a (by omega)
  obtain ⟨L2, hL2⟩ : ∃ l, L1 ++ [a] = l := ⟨_, rfl⟩
  have lL2 : L2.length = L1.length + 1 := by rw [← hL2]; simp
  rw [hL2] at g2
  have hnew : L ++ [zCN q.sp v, a] = L2 := by rw [← hL2, ← hL1]; try simp only [List.append_assoc, List.cons_append, List.nil_append]
  rw [hnew] at hst
  simp only [mkP] at g1 g2 ⊢
  repeat' first | (with_reducible first | refine zA ?_ | refine zB ?_ | refine zO ?_ | refine zJ ?_ | refine zG ?_) | ((with_reducible refine And.intro ?_ ?_); · exact Sq) | ((first | with_reducible refine zC fun KC J hJ hKC => ?_ | (refine hKC _ _ _ _ _ (zw [0, 1] g1 rfl rfl rfl (by decide) (by simp) rfl (zp rfl rfl rfl) Lq ?_)) | (refine hKC _ _ _ _ _ (zw [0, 1] g2 rfl rfl rfl (by decide) (by simp) rfl (zp rfl rfl rfl) Lq ?_))); simp (maxSteps := 9999999) only [push_cast, seval, ↓reduceIte, hlt, hge, hwn, List.cons_append, List.nil_append, zAQ, mOf, idx]) | ((with_reducible refine hJ _ _ ?_); clear hJ hKC KC J) | ((with_reducible refine zF ?_ ?_); · rfl)
  refine ⟨⟨i + 1, by omega⟩, by simp only; omega, ?_, ?_⟩
  ·exact Lq
  ·simp only [hst]; exact ⟨_, rfl⟩
 have hin : i = s.mem.length := by omega
 have hend : A2 ++ (s.mem.take i).flatMap (zBb q.sp) = A2 ++ s.mem.flatMap (zBb q.sp) := by rw [hin, List.take_length]
 rw [hend]
 obtain ⟨A3, hA3⟩ : ∃ l, A2 ++ s.mem.flatMap (zBb q.sp) = l := ⟨_, rfl⟩
 have lA3 : A3.length ≤ A2.length + 3 * s.mem.length := by
  have hb := zAG (zEK q.sp) s.mem
  rw [← hA3, List.length_append]; omega
 have k2 := zAg q A3 (s.stack.length : Int) (by omega)
 rw [hA3] at ⊢
 obtain ⟨A4, hA4⟩ : ∃ l, A3 ++ [(s.stack.length : Int)] = l := ⟨_, rfl⟩
 have lA4 : A4.length = A3.length + 1 := by rw [← hA4]; simp
 rw [hA4] at k2
 simp only [mkP, hA4] at k2 ⊢
 repeat' first | (with_reducible first | refine zA ?_ | refine zB ?_ | refine zX ?_ | refine zW ?_ | refine zQ ?_ | refine zG ?_) | ((first | with_reducible refine zC fun KC J hJ hKC => ?_ | (refine hKC _ _ _ _ _ (zw [0, 1] k2 rfl rfl rfl (by decide) (by simp) rfl (zp rfl rfl rfl) Lq ?_))); simp (maxSteps := 9999999) only [push_cast, seval, ↓reduceIte, hlt, Int.lt_irrefl, List.cons_append, List.nil_append, zAQ, mOf, idx]) | ((with_reducible refine hJ _ _ ?_); clear hJ hKC KC J) | ((with_reducible refine zH ?_ ?_); · rfl)
 refine zi 4 (γ := {i : Nat // i ≤ s.stack.length}) (fun i => ⟨[.ptr 0 0 0, .any, .any, .ptr 2 0 0, .kref true 3 0, .any, .any, .any, .any, .any, .any, .any, .any, .any, .any, .any, .any, .any, .any, .any, .any, .any, .any, .any, .any, .any, .any, .any, .any, .any, .any, .any, .any, .any, .any, .any, .any, .any, .any, .any, .any, .any, .any, .any, .any, .any, .any, .any, .any, .any, .any, .any, .any, .any, .any, .any, .any, .any, .any, .any, .any, .any, .any, .any, .any, .any, .any, .any, .any, .any, .any, .any, .any, .any, .any, .any, .any, .any, .any, .any, .any, .any, .any, .any, .any, .any, .sl f3 3 (zc s.stack), .v (.int .i64 s.stack.length), .v (.int .i64 i.1), .any, .any, .any, .any, .any, .any, .any, .any, .any, .any, .any, .any, .any, .any, .any, .any, .any, .any, .any, .any, .any, .any, .any, .any], [.ent (mkP q 1 (A4 ++ (s.stack.take i.1).flatMap (zBc q.sp))), zAw (A4 ++ (s.stack.take i.1).flatMap (zBc q.sp)), .ent ⟨0, none, 39, [.v (.int .i64 s.v), .v (.int .i64 s.l), .sl f1 3 (zh s.code), .sl f2 2 (zR s.mem), .sl f3 3 (zc s.stack), .sl f4 2 (zR s.out)], .cells⟩, .ent ⟨0, none, 234, [.bnd 172 [.ptr 0 0 0], .bnd 173 [.ptr 0 0 0], .bnd 173 [.ptr 0 0 0], .bnd 173 [.ptr 0 0 0]], .map [.int .i64 1, .int .i64 8, .int .i64 9, .int .i64 10]⟩]⟩) (fun i => s.stack.length - i.1) ⟨0, by omega⟩ (fun i => rfl) (fun i => ?_) (fun i => rfl) ⟨?_, ?_⟩ ?_
 ·refine zr ?_
  simp only [List.map_cons, List.map_nil, zx, zBd, zBs, zCi, zDA, show mOf (List.range 4) 1 = some 1 from rfl, zBJ]
  rfl
 ·exact Lq
 ·simp only [List.take_zero, List.flatMap_nil, List.append_nil]
  exact Fq
 rintro ⟨i, hi⟩
 dsimp only
 by_cases hlt : (i : Int) < (s.stack.length : Int)
 ·have hx : s.stack[i]? = some s.stack[i] := List.getElem?_eq_getElem (by omega)
  obtain ⟨x, hx0⟩ : ∃ x, s.stack[i] = x := ⟨_, rfl⟩
  rw [hx0] at hx
  have hst : A4 ++ (s.stack.take (i + 1)).flatMap (zBc q.sp) = (A4 ++ (s.stack.take i).flatMap (zBc q.sp)) ++ zBc q.sp x := by rw [zBW hx, List.append_assoc]
  have hwn := zb (i := i) (n := s.stack.length) (by omega) (by omega)
  have hLl : (A4 ++ (s.stack.take i).flatMap (zBc q.sp)).length ≤ 700 := by
   have hb := zAG (zET q.sp) (s.stack.take i)
   rw [List.length_take] at hb
   simp only [List.length_append, List.length_cons, List.length_nil]
   omega
  obtain ⟨L, hL⟩ : ∃ L, A4 ++ (s.stack.take i).flatMap (zBc q.sp) = L := ⟨_, rfl⟩
  rw [hL] at hst hLl ⊢
  obtain ⟨r, v, a⟩ := x
  have hge := zAJ hx
  simp only at hge
  rw [show zBc q.sp (r, v, a) = [zFM (r, v, a), zCl q.sp (r, v, a), a] from rfl] at hst
  have g1 := zNY q L (r, v, a) (by omega)
  obtain ⟨L1, hL1⟩ : ∃ l, L ++ [zFM (r, v, a)] = l := ⟨_, rfl⟩
  have lL1 : L1.length = L.length + 1 := by rw [← hL1]; simp
  rw [hL1] at g1
  have g2 := zEe q L1 (r, v, a) (by omega)
  obtain ⟨L2, hL2⟩ : ∃ l, L1 ++ [zCl q.sp (r, v, a)] = l := ⟨_, rfl⟩
  have lL2 : L2.length = L1.length + 1 := by rw [← hL2]; simp
  rw [hL2] at g2
  have g3 := zAg q L2 a (by omega)
  obtain ⟨L3, hL3⟩ : ∃ l, L2 ++ [a] = l := ⟨_, rfl⟩
  have lL3 : L3.length = L2.length + 1 := by rw [← hL3]; simp
  rw [hL3] at g3
  have hnew : L ++ [zFM (r, v, a), zCl q.sp (r, v, a), a] = L3 := by rw [← hL3, ← hL2, ← hL1]; try simp only [List.append_assoc, List.cons_append, List.nil_append]
  rw [hnew] at hst
  simp only [mkP] at g1 g2 g3 ⊢
  repeat' first | (with_reducible first | refine zA ?_ | refine zB ?_ | refine zO ?_ | refine zJ ?_ | refine zG ?_) | ((with_reducible refine And.intro ?_ ?_); · exact Sq) | ((first | with_reducible refine zC fun KC J hJ hKC => ?_ | (refine hKC _ _ _ _ _ (zw [0, 1] g1 rfl rfl rfl (by decide) (by simp) rfl (zp rfl rfl rfl) Lq ?_)) | (refine hKC _ _ _ _ _ (zw [0, 1] g2 rfl rfl rfl (by decide) (by simp) rfl (zp rfl rfl rfl) Lq ?_)) | (refine hKC _ _ _ _ _ (zw [0, 1] g3 rfl rfl rfl (by decide) (by simp) rfl (zp rfl rfl rfl) Lq ?_))); simp (maxSteps := 9999999) only [push_cast, seval, ↓reduceIte, hlt, hge, hwn, List.cons_append, List.nil_append, zAQ, mOf, idx]) | ((with_reducible refine hJ _ _ ?_); clear hJ hKC KC J) | ((with_reducible refine zF ?_ ?_); · rfl)
  refine ⟨⟨i + 1, by omega⟩, by simp only; omega, ?_, ?_⟩
  ·exact Lq
  ·simp only [hst]; exact ⟨_, rfl⟩
 have hin : i = s.stack.length := by omega
 have hend : A4 ++ (s.stack.take i).flatMap (zBc q.sp) = A4 ++ s.stack.flatMap (zBc q.sp) := by rw [hin, List.take_length]
 rw [hend]
 obtain ⟨A5, hA5⟩ : ∃ l, A4 ++ s.stack.flatMap (zBc q.sp) = l := ⟨_, rfl⟩
 have lA5 : A5.length ≤ A4.length + 3 * s.stack.length := by
  have hb := zAG (zET q.sp) s.stack
  rw [← hA5, List.length_append]; omega
 have k3 := zAg q A5 s.v (by omega)
 rw [hA5] at ⊢
 obtain ⟨A6, hA6⟩ : ∃ l, A5 ++ [s.v] = l := ⟨_, rfl⟩
 have lA6 : A6.length = A5.length + 1 := by rw [← hA6]; simp
 rw [hA6] at k3
 have k4 := zAg q A6 s.l (by omega)
 obtain ⟨A7, hA7⟩ : ∃ l, A6 ++ [s.l] = l := ⟨_, rfl⟩
 rw [hA7] at k4
 simp only [mkP, hA6, hA7] at k3 k4 ⊢
 repeat' first | (with_reducible first | refine zA ?_ | refine zB ?_ | refine zX ?_ | refine zW ?_ | refine zQ ?_) | ((first | with_reducible refine zC fun KC J hJ hKC => ?_ | (refine hKC _ _ _ _ _ (zw [0, 1] k3 rfl rfl rfl (by decide) (by simp) rfl (zp rfl rfl rfl) Lq ?_)) | (refine hKC _ _ _ _ _ (zw [0, 1] k4 rfl rfl rfl (by decide) (by simp) rfl (zp rfl rfl rfl) Lq ?_))); simp (maxSteps := 9999999) only [push_cast, seval, ↓reduceIte, hlt, Int.lt_irrefl, List.cons_append, List.nil_append, zAQ, mOf, idx]) | ((with_reducible refine hJ _ _ ?_); clear hJ hKC KC J) | ((with_reducible refine zH ?_ ?_); · rfl)
 exact zFu rfl rfl rfl
theorem zCD {P : Program} {ro : Option Nat} {st : St} {K : Exit → St → Prop} {ops : Array Oper} {dr : Bool} (id x y : Nat) {e : Ent} (hx : zBH st.σ x = .ent e) (hy : zBH st.σ y = .free) (h : AWP P ro (.region id ops dr) (zBG x y st) K) : AWP P ro (.region id ops dr) st K := zPb x y hx hy h
def oE (k : Nat) (L : List Int) : Option Nat → D
 | none => .sl true 1 (zK L)
 | some g => .ref k g L.length
def oS (L : List Int) : Option Nat → Slot
 | none => .free
 | some g => .ent ⟨g, some 1, 3, zY L, .cells⟩
theorem zHn (m : Nat → Option Nat) (L : List Int) (og : Option Nat) : zT m (oS L og) = oS L og := by
 cases og with
 | none => rfl
 | some g => simp only [oS, zT, zAL]
theorem zCH (h : Bool) (sp : Sp) (v : Int) : Fn Tryz.prog 83 [.agg (spF h sp), .v (.int .i64 v)] [] (.v (.int .i64 (zCN sp v))) [] := by
 have h1 := zKI sp.val v
 unfold zCN
 simp only [spF]
 refine Fn.of (fn := Tryz.f83) (by kernel_rfl) rfl (by kernel_rfl) ⟨[.agg [.v (.int .i64 sp.code), .v (.int .i64 sp.mem), .v (.int .i64 sp.stack), .v (.int .i64 sp.val), .sl h 1 (zK sp.ws)], .v (.int .i64 v), .v undef, .v undef, .v undef, .v undef, .v undef, .v undef, .v undef, .v undef], []⟩ rfl ?_
 repeat' first | (with_reducible first | refine zA ?_ | refine zB ?_ | refine zI ?_) | ((first | with_reducible refine zC fun KC J hJ hKC => ?_ | (refine hKC _ _ _ _ _ (zD (h1) rfl rfl rfl ?_ ?_); (· exact Lq))); simp (maxSteps := 9999999) only [push_cast, seval, ↓reduceIte]) | ((with_reducible refine hJ _ _ ?_); clear hJ hKC KC J)
 refine zE ?_
 simp (maxSteps := 9999999) only [push_cast, seval, ↓reduceIte, show Tryz.f83.results = #[(.tmp 4)] from rfl]
 exact Lq
theorem zJn (x : Bool × Int × Int) : Fn Tryz.prog 84 [.agg [.v (.bool x.1), .v (.int .i64 x.2.1), .v (.int .i64 x.2.2)]] [] (.v (.int .i64 (zFM x))) [] := by
 obtain ⟨r, v, l⟩ := x
 unfold zFM
 cases r
 ·refine Fn.of (fn := Tryz.f84) (by kernel_rfl) rfl (by kernel_rfl) ⟨[.agg [.v (.bool false), .v (.int .i64 v), .v (.int .i64 l)], .v undef, .v undef, .v undef, .v undef], []⟩ rfl ?_
  repeat' first | (with_reducible first | refine zA ?_ | refine zB ?_ | refine zI ?_ | refine zJ ?_) | ((with_reducible refine zC fun KC J hJ hKC => ?_); simp (maxSteps := 9999999) only [push_cast, seval, ↓reduceIte]) | ((with_reducible refine hJ _ _ ?_); clear hJ hKC KC J) | ((with_reducible refine zH ?_ ?_); · rfl)
  refine zE ?_
  simp (maxSteps := 9999999) only [push_cast, seval, ↓reduceIte, show Tryz.f84.results = #[(.tmp 2)] from rfl]
  exact Lq
 ·refine Fn.of (fn := Tryz.f84) (by kernel_rfl) rfl (by kernel_rfl) ⟨[.agg [.v (.bool true), .v (.int .i64 v), .v (.int .i64 l)], .v undef, .v undef, .v undef, .v undef], []⟩ rfl ?_
  repeat' first | (with_reducible first | refine zA ?_ | refine zB ?_ | refine zS ?_ | refine zI ?_) | ((with_reducible refine zC fun KC J hJ hKC => ?_); simp (maxSteps := 9999999) only [push_cast, seval, ↓reduceIte]) | ((with_reducible refine hJ _ _ ?_); clear hJ hKC KC J) | ((with_reducible refine zF ?_ ?_); · rfl)
  refine zE ?_
  simp (maxSteps := 9999999) only [push_cast, seval, ↓reduceIte, show Tryz.f84.results = #[(.tmp 2)] from rfl]
  exact Lq
theorem zEU (h : Bool) (sp : Sp) (x : Bool × Int × Int) : Fn Tryz.prog 85 [.agg (spF h sp), .agg [.v (.bool x.1), .v (.int .i64 x.2.1), .v (.int .i64 x.2.2)]] [] (.v (.int .i64 (zCl sp x))) [] := by
 obtain ⟨r, v, l⟩ := x
 have h1 := zCH h sp v
 unfold zCl
 simp only [spF] at h1 ⊢
 cases r
 ·refine Fn.of (fn := Tryz.f85) (by kernel_rfl) rfl (by kernel_rfl) ⟨[.agg [.v (.int .i64 sp.code), .v (.int .i64 sp.mem), .v (.int .i64 sp.stack), .v (.int .i64 sp.val), .sl h 1 (zK sp.ws)], .agg [.v (.bool false), .v (.int .i64 v), .v (.int .i64 l)], .v undef, .v undef, .v undef, .v undef, .v undef, .v undef, .v undef, .v undef, .v undef, .v undef, .v undef], []⟩ rfl ?_
  repeat' first | (with_reducible first | refine zA ?_ | refine zB ?_ | refine zI ?_ | refine zJ ?_) | ((first | with_reducible refine zC fun KC J hJ hKC => ?_ | (refine hKC _ _ _ _ _ (zD (h1) rfl rfl rfl ?_ ?_); (· exact Lq))); simp (maxSteps := 9999999) only [push_cast, seval, ↓reduceIte]) | ((with_reducible refine hJ _ _ ?_); clear hJ hKC KC J) | ((with_reducible refine zH ?_ ?_); · rfl)
  refine zE ?_
  simp (maxSteps := 9999999) only [push_cast, seval, ↓reduceIte, show Tryz.f85.results = #[(.tmp 4)] from rfl]
  exact Lq
 ·refine Fn.of (fn := Tryz.f85) (by kernel_rfl) rfl (by kernel_rfl) ⟨[.agg [.v (.int .i64 sp.code), .v (.int .i64 sp.mem), .v (.int .i64 sp.stack), .v (.int .i64 sp.val), .sl h 1 (zK sp.ws)], .agg [.v (.bool true), .v (.int .i64 v), .v (.int .i64 l)], .v undef, .v undef, .v undef, .v undef, .v undef, .v undef, .v undef, .v undef, .v undef, .v undef, .v undef], []⟩ rfl ?_
  repeat' first | (with_reducible first | refine zA ?_ | refine zB ?_ | refine zS ?_ | refine zI ?_) | ((with_reducible refine zC fun KC J hJ hKC => ?_); simp (maxSteps := 9999999) only [push_cast, seval, ↓reduceIte]) | ((with_reducible refine hJ _ _ ?_); clear hJ hKC KC J) | ((with_reducible refine zF ?_ ?_); · rfl)
  refine zE ?_
  simp (maxSteps := 9999999) only [push_cast, seval, ↓reduceIte, show Tryz.f85.results = #[(.tmp 4)] from rfl]
  exact Lq
theorem zMY (f g : Bool) (ns : List ByteArray) (us : List Nat) (o a : Nat) (hu : U32 us) (ha : a < us.length) (ho : o ≤ 1000) : Fn Tryz.prog 187 [.agg [.sl f 1 (zM ns), .sl g 1 (zL us)], .v (.int .i64 (o : Int)), .v (.int .i64 (a : Int))] [] (.v (.bool (fl us a o))) [] := by
 have h1 := zz f g ns us o a hu ha ho
 refine Fn.of (fn := Tryz.f187) (by kernel_rfl) rfl (by kernel_rfl) ⟨[.agg [.sl f 1 (zM ns), .sl g 1 (zL us)], .v (.int .i64 (o : Int)), .v (.int .i64 (a : Int)), .v undef, .v undef, .v undef, .v undef, .v undef, .v undef, .v undef, .v undef], []⟩ rfl ?_
 repeat' first | (with_reducible first | refine zA ?_ | refine zB ?_ | refine zI ?_) | ((first | with_reducible refine zC fun KC J hJ hKC => ?_ | (refine hKC _ _ _ _ _ (zD (h1) rfl rfl rfl ?_ ?_); (· exact Lq))); simp (maxSteps := 9999999) only [push_cast, seval, ↓reduceIte]) | ((with_reducible refine hJ _ _ ?_); clear hJ hKC KC J)
 refine zE ?_
 simp (maxSteps := 9999999) only [push_cast, seval, ↓reduceIte, show Tryz.f187.results = #[(.tmp 6)] from rfl]
 exact Lq
def zHw (us : List Nat) (o i : Nat) : List Int := ((List.range i).map (fun a : Nat => (a : Int))).filter (hid us o)
theorem zOn (us : List Nat) (o i : Nat) : zHw us o (i + 1) = zHw us o i ++ (if hid us o (i : Int) = true then [(i : Int)] else []) := by
 unfold zHw
 rw [List.range_succ, List.map_append, List.filter_append]
 congr 1
 rw [List.map_cons, List.map_nil, List.filter_cons]
 split <;> rfl
theorem zNm (us : List Nat) (o i : Nat) : (zHw us o i).length ≤ i := by
 unfold zHw; exact Nat.le_trans (List.length_filter_le _ _) (by simp)
def emD (L : List Int) : D := if L = [] then .sl true 1 [] else .sl false 1 (zK L)
theorem zNe (L : List Int) : Rle (emD L) (.sl false 1 (zK L)) := by
 unfold emD
 split
 ·rename_i h; subst h; exact .full _ _
 ·exact .refl _
theorem zJI (f g : Bool) (ns : List ByteArray) (us : List Nat) (o : Nat) (hu : U32 us) (hul : us.length ≤ 100) (ho : o ≤ 1000) : Fn Tryz.prog 90 [.agg [.sl f 1 (zM ns), .sl g 1 (zL us)], .v (.int .i64 (o : Int))] [] (emD (zBp us o)) [] := by
 have hqu : (zL us).length = us.length := by simp [zL]
 refine Fn.of (fn := Tryz.f90) (by kernel_rfl) rfl (by kernel_rfl) ⟨[.agg [.sl f 1 (zM ns), .sl g 1 (zL us)], .v (.int .i64 (o : Int)), .v undef, .v undef, .v undef, .v undef, .v undef, .v undef, .v undef, .v undef, .v undef, .v undef, .v undef, .v undef, .v undef, .v undef, .v undef, .v undef, .v undef, .v undef, .v undef, .v undef, .v undef, .v undef, .v undef], []⟩ rfl ?_
 repeat' first | (with_reducible first | refine zA ?_ | refine zB ?_ | refine zG ?_) | ((with_reducible refine zC fun KC J hJ hKC => ?_); simp (maxSteps := 9999999) only [push_cast, seval, ↓reduceIte, hqu]) | ((with_reducible refine hJ _ _ ?_); clear hJ hKC KC J)
 refine zi 2 (γ := {p : Nat × Option Nat // p.1 ≤ us.length ∧ (p.2 = none → zHw us o p.1 = []) ∧ ∀ g, p.2 = some g → zHw us o p.1 ≠ []}) (fun p => ⟨[.any, .v (.int .i64 (o : Int)), .ptr 0 0 0, .any, .any, oE 1 (zHw us o p.1.1) p.1.2, .any, .any, .any, .any, .v (.int .i64 us.length), .v (.int .i64 p.1.1), .any, .any, .any, .any, .any, .any, .any, .any, .any, .any, .any, .any, .any], [.ent ⟨0, none, 25, [.sl f 1 (zM ns), .sl g 1 (zL us)], .cells⟩, oS (zHw us o p.1.1) p.1.2]⟩) (fun p => us.length - p.1.1) ⟨(0, none), by omega, (fun _ => rfl), fun g h => by cases h⟩ (fun p => rfl) (fun p => ?_) (fun p => ?_) ⟨?_, ?_⟩ ?_
 ·refine zr ?_
  simp only [List.map_cons, List.map_nil, zHn]
  rfl
 ·obtain ⟨⟨i, og⟩, hp⟩ := p
  cases og <;> rfl
 ·simp only [oE]
  exact Lq
 ·simp only [oS]
  exact Fq
 rintro ⟨⟨i, og⟩, hi, hno, hns⟩
 dsimp only at hi hno hns ⊢
 have hle := zNm us o i
 by_cases hlt : (i : Int) < (us.length : Int)
 ·have hst := zOn us o i
  have h1 := zMY f g ns us o i hu (by omega) ho
  have hwn := zb (i := i) (n := us.length) (by omega) (by omega)
  obtain ⟨b, hb⟩ : ∃ b, fl us i o = b := ⟨_, rfl⟩
  have hh : hid us o (i : Int) = !b := by unfold hid; rw [Int.toNat_natCast, hb]
  rw [hb] at h1
  rw [hh] at hst
  obtain ⟨L, hL⟩ : ∃ L, zHw us o i = L := ⟨_, rfl⟩
  rw [hL] at hno hns hst hle ⊢
  cases b
  case true =>
   rw [if_neg (by simp), List.append_nil] at hst
   repeat' first | (with_reducible first | refine zA ?_ | refine zB ?_ | refine zO ?_ | refine zJ ?_ | refine zG ?_) | ((first | with_reducible refine zC fun KC J hJ hKC => ?_ | (refine hKC _ _ _ _ _ (zD (h1) rfl rfl rfl ?_ ?_); (· exact Lq))); simp (maxSteps := 9999999) only [push_cast, seval, ↓reduceIte, hlt, hwn]) | ((with_reducible refine hJ _ _ ?_); clear hJ hKC KC J) | ((with_reducible refine zF ?_ ?_); · rfl) | ((with_reducible refine zH ?_ ?_); · rfl)
   refine ⟨⟨(i + 1, og), by simp only; omega, (fun h => by rw [hst]; exact hno h), fun g h => by rw [hst]; exact hns g h⟩, by simp only; omega, ?_, ?_⟩
   ·simp only [hst]
    exact Lq
   ·simp only [hst]
    exact ⟨_, rfl⟩
  case false =>
   rw [if_pos (by rfl)] at hst
   rcases og with _ | gg
   ·have hL0 := hno rfl
    rw [hL0, show oE 1 [] none = .sl true 1 [] from rfl, show oS [] none = .free from rfl]
    rw [hL0, List.nil_append] at hst
    repeat' first | (refine zCD 7 4 1 rfl rfl ?_; simp (maxSteps := 9999999) only [push_cast, seval, ↓reduceIte, zBG, mvK, zT, ren, ren2, ren1, ren0, hlt, hwn]) | (with_reducible first | refine zA ?_ | refine zB ?_ | refine zJ ?_ | refine zG ?_) | ((first | with_reducible refine zC fun KC J hJ hKC => ?_ | (refine hKC _ _ _ _ _ (zD (h1) rfl rfl rfl ?_ ?_); (· exact Lq))); simp (maxSteps := 9999999) only [push_cast, seval, ↓reduceIte, hlt, hwn]) | ((with_reducible refine hJ _ _ ?_); clear hJ hKC KC J) | ((with_reducible refine zF ?_ ?_); · rfl)
    refine ⟨⟨(i + 1, some 0), by simp only; omega, (fun h => by cases h), fun g h => by rw [hst]; simp⟩, by simp only; omega, ?_, ?_⟩
    ·simp only [hst, oE, List.length_cons, List.length_nil]
     exact Lq
    ·simp only [hst]
     exact ⟨_, rfl⟩
   ·rw [show oE 1 L (some gg) = .ref 1 gg L.length from rfl, show oS L (some gg) = .ent ⟨gg, some 1, 3, zY L, .cells⟩ from rfl]
    have hbq : Nat.beq gg gg = true := Nat.beq_refl gg
    have hlC : (zY L).length = L.length := zZ L
    have htk := zAM (L := L) rfl
    repeat' first | (with_reducible first | refine zA ?_ | refine zB ?_ | refine zO ?_ | refine zJ ?_ | refine zG ?_) | ((with_reducible refine And.intro ?_ ?_); · exact Sq) | ((first | with_reducible refine zC fun KC J hJ hKC => ?_ | (refine hKC _ _ _ _ _ (zD (h1) rfl rfl rfl ?_ ?_); (· exact Lq))); simp (maxSteps := 9999999) only [push_cast, seval, ↓reduceIte, hlt, hwn, hbq, hlC, htk, Nat.mul_one]) | ((with_reducible refine hJ _ _ ?_); clear hJ hKC KC J) | ((with_reducible refine zF ?_ ?_); · rfl)
    refine ⟨⟨(i + 1, some (gg + 1)), by simp only; omega, (fun h => by cases h), fun g h => by rw [hst]; simp⟩, by simp only; omega, ?_, ?_⟩
    ·simp only [hst, oE, List.length_append, List.length_cons, List.length_nil]
     exact Lq
    ·simp only [hst, oS, zAB]
     exact ⟨_, rfl⟩
 have hin : i = us.length := by omega
 have hend : zHw us o i = zBp us o := by rw [hin]; rfl
 rw [hend] at hno hns ⊢
 obtain ⟨L, hL⟩ : ∃ L, zBp us o = L := ⟨_, rfl⟩
 rw [hL] at hno hns ⊢
 rcases og with _ | gg
 ·rw [hno rfl, show oE 1 [] none = .sl true 1 [] from rfl, show oS [] none = .free from rfl]
  repeat' first | (with_reducible first | refine zA ?_ | refine zB ?_ | refine zX ?_ | refine zW ?_ | refine zI ?_ | refine zQ ?_) | ((with_reducible refine zC fun KC J hJ hKC => ?_); simp (maxSteps := 9999999) only [push_cast, seval, ↓reduceIte, hlt]) | ((with_reducible refine hJ _ _ ?_); clear hJ hKC KC J) | ((with_reducible refine zH ?_ ?_); · rfl)
  refine zE ?_
  simp (maxSteps := 9999999) only [push_cast, seval, ↓reduceIte, show Tryz.f90.results = #[(.tmp 4)] from rfl]
  rw [show emD [] = .sl true 1 [] from rfl]
  exact Lq
 ·rw [show oE 1 L (some gg) = .ref 1 gg L.length from rfl, show oS L (some gg) = .ent ⟨gg, some 1, 3, zY L, .cells⟩ from rfl]
  have hbq : Nat.beq gg gg = true := Nat.beq_refl gg
  have hlC : (zY L).length = L.length := zZ L
  have hcp : zBF 1 L.length (zY L) = zK L := zBn L
  repeat' first | (with_reducible first | refine zA ?_ | refine zB ?_ | refine zX ?_ | refine zW ?_ | refine zQ ?_) | ((with_reducible refine zC fun KC J hJ hKC => ?_); simp (maxSteps := 9999999) only [push_cast, seval, ↓reduceIte, hlt]) | ((with_reducible refine hJ _ _ ?_); clear hJ hKC KC J) | ((with_reducible refine zH ?_ ?_); · rfl)
  refine zt 1 rfl (by simp (maxSteps := 9999999) only [push_cast, seval, ↓reduceIte]) ?_
  simp (maxSteps := 9999999) only [push_cast, seval, ↓reduceIte, zAH, zd, fr3, fr2, fr1, fr0, zl, zj, hbq, hlC, hcp, Nat.mul_one]
  refine zI ?_
  refine zE ?_
  simp (maxSteps := 9999999) only [push_cast, seval, ↓reduceIte, show Tryz.f90.results = #[(.tmp 4)] from rfl]
  rw [show emD L = .sl false 1 (zK L) from if_neg (hns gg rfl)]
  exact Lq
theorem zKK (f g : Bool) (ns : List ByteArray) (us : List Nat) (o : Nat) (hu : U32 us) (hul : us.length ≤ 100) (ho : o ≤ 1000) : Fn Tryz.prog 90 [.agg [.sl f 1 (zM ns), .sl g 1 (zL us)], .v (.int .i64 (o : Int))] [] (.sl false 1 (zK (zBp us o))) [] :=
 (zJI f g ns us o hu hul ho).post (zNe _)
def WeakU (σu s t : List Slot) : Prop := ∃ ks : List Nat, ks.Nodup ∧ (∀ k g, zBX σu k g → ks[k]? = some k) ∧ leS (pick ks s) t
section
variable {P : Program} {ro : Option Nat} {st : St} {K : Exit → St → Prop}
end
section
variable {P : Program} {ro : Option Nat} {st : St} {K : Exit → St → Prop} {ops : Array Oper} {dr : Bool} {c c2 : Code}
end
theorem WeakU.of {σu s t : List Slot} {n : Nat} (hl : σu.length = n) (h : zHA n s t) : WeakU σu s t := by
 obtain ⟨ks, h1, h2, h3⟩ := h
 refine ⟨ks, h1, fun k g hu => h2 k ?_, h3⟩
 obtain ⟨x, hx, _⟩ := hu
 rw [← hl]; exact (List.getElem?_eq_some_iff.1 hx).1
@[push_cast] theorem zXu : tyI Tryz.prog 186 = some ⟨TypeDesc.func #[] #[3] false, 1, 8, Value.nilFunc⟩ := by kernel_rfl
theorem zOQ {a b : Slot} {l m : List Slot} (h : zIx a b) (h2 : leS l m) : leS (a :: l) (b :: m) := ⟨h, h2⟩
theorem LSv {p : Prop} (h : p := by (repeat' first | exact zBK _ | refine zOQ ?_ ?_ | exact .inr (.inl rfl) | exact .inl rfl | exact zPq rfl rfl rfl rfl Lq)) : p := h
theorem zID {ns : List ByteArray} {us : List Nat} {o : Int} {s : List (Bool × Int × Int)} (hc : zq ns us = 0) (hs : ∀ x ∈ s, zn us.length x.2.2 = false) (ho : zn us.length o = false) : zMF ns us o s = 0 := by
 unfold zMF zEB
 rw [if_pos hc, if_neg]
 rw [List.any_eq_true]
 rintro ⟨x, hx, h⟩
 rcases List.mem_append.1 hx with hx | hx
 ·have : ∃ y ∈ s, y.2.2 = x := by simp [zDr] at hx ⊢; first | exact hx | (obtain ⟨a, b, c⟩ := hx; exact ⟨a, b, c⟩)
  obtain ⟨y, hy, rfl⟩ := this
  rw [hs y hy] at h; cases h
 ·rw [List.mem_singleton] at hx; subst hx; rw [ho] at h; cases h
theorem zPi {ns : List ByteArray} {us : List Nat} {o : Nat} {s : List (Bool × Int × Int)} (hc : zq ns us = 0) (hs : ∀ x ∈ s, zn us.length x.2.2 = false) (ho : zn us.length (o : Int) = false) : zNt ns us (o : Int) s = zAV us o s := by
 unfold zNt; rw [if_pos (zID hc hs ho), Int.toNat_natCast]
structure VIn (q : VQ) (s : Sta) : Prop where
 cn : s.code.length ≤ 100
 mn : s.mem.length ≤ 100
 sn : s.stack.length ≤ 12
 cl : ∀ x ∈ s.code, x.1 = 1 → zn q.us.length x.2.2 = false
 ml : ∀ x ∈ s.mem, zn q.us.length x.2 = false
 sl : ∀ x ∈ s.stack, zn q.us.length x.2.2 = false
 ll : zn q.us.length s.l = false
 s0 : 0 ≤ q.sp.stack
 s1 : q.sp.stack ≤ 12
 sk : (s.stack.length : Int) ≤ q.sp.stack
theorem zIH (sp : Sp) (us : List Nat) (o : Nat) (x : Int × Int × Int) : (vIL sp us o x).length ≤ 3 := by unfold vIL; split <;> simp
theorem zHg (sp : Sp) (us : List Nat) (o : Nat) (x : Int × Int) : (vAL sp us o x).length ≤ 3 := by unfold vAL; split <;> simp
theorem zDw (sp : Sp) (us : List Nat) (o : Nat) (x : Bool × Int × Int) : (vSL sp us o x).length ≤ 3 := by unfold vSL; split <;> simp
theorem zEE (sp : Sp) (x : Bool × Int × Int) : (zBZ sp x).length ≤ 3 := by simp [zBZ]
theorem zOT (us : List Nat) (o i : Nat) : zDR us o ((i + 1 : Nat) : Int) = zDR us o (i : Int) + (if hid us o (i : Int) = true then 1 else 0) := by
 unfold zDR
 rw [Int.toNat_natCast, Int.toNat_natCast, List.range_succ, List.map_append, List.filter_append, List.length_append]
 congr 1
 rw [List.map_cons, List.map_nil, List.filter_cons]
 split <;> rfl
theorem zRQ (us : List Nat) (o i : Nat) : zDR us o (i : Int) ≤ i := by
 unfold zDR
 refine Nat.le_trans (List.length_filter_le _ _) ?_
 simp
theorem zCo (l : List (Bool × Int × Int)) (n : Nat) : (zc l).take n = zc (l.take n) := by simp [zc]
theorem zJi (l : List (Bool × Int × Int)) (n : Nat) : (zc l).drop n = zc (l.drop n) := by simp [zc]
theorem zSI {P : Program} {fn : Func} {st : St} {q : VQ} {L : List Int} (hr : fn.results = #[]) (h0 : zBH st.σ 0 = .ent (mkP q 1 L)) (h1 : zBH st.σ 1 = zAw L) : zIv P fn 2 (.tup []) [.ent (mkP q 1 L), zAw L] .ret st :=
 ⟨.inr rfl, [0, 1], True, .tup [], by unfold zHK; rw [hr]; rfl, trivial, by decide, fun k hk => by match k, hk with | 0, _ => rfl | 1, _ => rfl, zp h0 h1 rfl, zN _⟩
structure VIn2 (n : Nat) (a b : Sta) : Prop where
 cn : b.code.length ≤ 50
 mn : b.mem.length ≤ 50
 sn : b.stack.length ≤ 50
 cl : ∀ x ∈ b.code, x.1 = 1 → zn n x.2.2 = false
 ml : ∀ x ∈ b.mem, zn n x.2 = false
 sl : ∀ x ∈ b.stack, zn n x.2.2 = false
 al : zn n a.l = false
 bl : zn n b.l = false
theorem zML (q : VQ) (hq : VOk q) (hul : q.us.length ≤ 100) (f1 f2 f3 f4 g1 g2 g3 g4 : Bool) (a b : Sta) (hab : VIn2 q.us.length a b) :
  Fn Tryz.prog 80 [.ptr 0 0 0, .agg (zAN f1 f2 f3 f4 a), .agg (zAN g1 g2 g3 g4 b)] [.ent (mkP q 1 []), .free] (.tup []) [.ent (mkP q 1 (zAa q.sp q.us q.o a b)), zAw (zAa q.sp q.us q.o a b)] := by
 obtain ⟨h1, h2, h3, hcL, hmL, hsL, haL, hbL⟩ := hab
 simp only [zAN]
 refine Fn.of (fn := Tryz.f80) (by kernel_rfl) rfl (by kernel_rfl) ⟨[.ptr 0 0 0, .agg [.v (.int .i64 a.v), .v (.int .i64 a.l), .sl f1 3 (zh a.code), .sl f2 2 (zR a.mem), .sl f3 3 (zc a.stack), .sl f4 2 (zR a.out)], .agg [.v (.int .i64 b.v), .v (.int .i64 b.l), .sl g1 3 (zh b.code), .sl g2 2 (zR b.mem), .sl g3 3 (zc b.stack), .sl g4 2 (zR b.out)], .v undef, .v undef, .v undef, .v undef, .v undef, .v undef, .v undef, .v undef, .v undef, .v undef, .v undef, .v undef, .v undef, .v undef, .v undef, .v undef, .v undef, .v undef, .v undef, .v undef, .v undef, .v undef, .v undef, .v undef, .v undef, .v undef, .v undef, .v undef, .v undef, .v undef, .v undef, .v undef, .v undef, .v undef, .v undef, .v undef, .v undef, .v undef, .v undef, .v undef, .v undef, .v undef, .v undef, .v undef, .v undef, .v undef, .v undef, .v undef, .v undef, .v undef, .v undef, .v undef, .v undef, .v undef, .v undef, .v undef, .v undef, .v undef, .v undef, .v undef, .v undef, .v undef, .v undef, .v undef, .v undef, .v undef, .v undef, .v undef, .v undef, .v undef, .v undef, .v undef, .v undef, .v undef, .v undef, .v undef, .v undef, .v undef, .v undef, .v undef, .v undef, .v undef, .v undef, .v undef, .v undef, .v undef, .v undef, .v undef, .v undef, .v undef, .v undef, .v undef, .v undef, .v undef, .v undef, .v undef, .v undef, .v undef, .v undef, .v undef, .v undef, .v undef, .v undef, .v undef, .v undef, .v undef, .v undef, .v undef, .v undef, .v undef, .v undef, .v undef, .v undef, .v undef, .v undef, .v undef, .v undef, .v undef, .v undef, .v undef, .v undef, .v undef, .v undef, .v undef, .v undef, .v undef, .v undef, .v undef, .v undef, .v undef, .v undef, .v undef, .v undef, .v undef, .v undef, .v undef, .v undef, .v undef, .v undef, .v undef, .v undef, .v undef, .v undef, .v undef, .v undef], [.ent (mkP q 1 []), .free]⟩ rfl ?_
 simp only [mkP]
 repeat' first | (with_reducible first | refine zA ?_ | refine zB ?_ | refine zG ?_) | ((with_reducible refine zC fun KC J hJ hKC => ?_); simp (maxSteps := 9999999) only [push_cast, seval, ↓reduceIte]) | ((with_reducible refine hJ _ _ ?_); clear hJ hKC KC J)
 refine zi 4 (γ := {i : Nat // i ≤ (b.code).length}) (fun i => ⟨[.ptr 0 0 0, .any, .any, .any, .ptr 2 0 0, .ptr 3 0 0, .any, .any, .any, .any, .any, .any, .any, .any, .any, .any, .any, .any, .any, .any, .any, .sl g1 3 (zh (b.code)), .v (.int .i64 (b.code).length), .v (.int .i64 i.1), .any, .any, .any, .any, .any, .any, .any, .any, .any, .any, .any, .any, .any, .any, .any, .any, .any, .any, .any, .any, .any, .any, .any, .any, .any, .any, .any, .any, .any, .any, .any, .any, .any, .any, .any, .any, .any, .any, .any, .any, .any, .any, .any, .any, .any, .any, .any, .any, .any, .any, .any, .any, .any, .any, .any, .any, .any, .any, .any, .any, .any, .any, .any, .any, .any, .any, .any, .any, .any, .any, .any, .any, .any, .any, .any, .any, .any, .any, .any, .any, .any, .any, .any, .any, .any, .any, .any, .any, .any, .any, .any, .any, .any, .any, .any, .any, .any, .any, .any, .any, .any, .any, .any, .any, .any, .any, .any, .any, .any, .any, .any, .any, .any, .any, .any, .any, .any, .any, .any, .any, .any, .any, .any, .any], [.ent (mkP q 1 (((b.code).take i.1).flatMap (vIL q.sp q.us q.o))), zAw (((b.code).take i.1).flatMap (vIL q.sp q.us q.o)), .ent ⟨0, none, 39, [.v (.int .i64 a.v), .v (.int .i64 a.l), .sl f1 3 (zh a.code), .sl f2 2 (zR a.mem), .sl f3 3 (zc a.stack), .sl f4 2 (zR a.out)], .cells⟩, .ent ⟨0, none, 39, [.v (.int .i64 b.v), .v (.int .i64 b.l), .sl g1 3 (zh b.code), .sl g2 2 (zR b.mem), .sl g3 3 (zc b.stack), .sl g4 2 (zR b.out)], .cells⟩]⟩) (fun i => (b.code).length - i.1) ⟨0, by omega⟩ (fun i => rfl) (fun i => ?_) (fun i => rfl) ⟨?_, ?_⟩ ?_
 ·refine zr ?_
  simp only [List.map_cons, List.map_nil, zx, zBd, zBs, zCi, zDA, show mOf (List.range 4) 1 = some 1 from rfl, zBJ]
  rfl
 ·exact Lq
 ·simp only [List.take_zero, List.flatMap_nil, List.append_nil]
  exact Fq
 rintro ⟨i, hi⟩
 dsimp only
 by_cases hlt : (i : Int) < ((b.code).length : Int)
 ·have hx : (b.code)[i]? = some (b.code)[i] := List.getElem?_eq_getElem (by omega)
  obtain ⟨x, hx0⟩ : ∃ x, (b.code)[i] = x := ⟨_, rfl⟩
  rw [hx0] at hx
  have hst : ((b.code).take (i + 1)).flatMap (vIL q.sp q.us q.o) = (((b.code).take i).flatMap (vIL q.sp q.us q.o)) ++ vIL q.sp q.us q.o x := by rw [zBW hx]
  have hwn := zb (i := i) (n := (b.code).length) (by omega) (by omega)
  have hLl : (((b.code).take i).flatMap (vIL q.sp q.us q.o)).length ≤ 150 := by
   have hb := zAG (zIH q.sp q.us q.o) ((b.code).take i)
   rw [List.length_take] at hb
   skip
   omega
  have hlab := hcL x (List.mem_of_getElem? hx)
  obtain ⟨L, hL⟩ : ∃ L, ((b.code).take i).flatMap (vIL q.sp q.us q.o) = L := ⟨_, rfl⟩
  rw [hL] at hst hLl ⊢
  obtain ⟨p, v, c⟩ := x
  have hge := zAp hx
  simp only at hge hlab
  by_cases e1 : p = 1
  ·have e1' : (p == 1) = true := by simpa using e1
   have hh := zCW q hq L c (hlab e1)
   obtain ⟨hb, hhb⟩ : ∃ b, hid q.us q.o c = b := ⟨_, rfl⟩
   rw [hhb] at hh
   cases hb
   case false =>
    rw [show vIL q.sp q.us q.o (p, v, c) = [] by unfold vIL; rw [if_neg (by rw [hhb]; simp)]] at hst
    have hnew : L ++ [] = L := by simp only [List.append_assoc, List.cons_append, List.nil_append, List.append_nil]
    rw [hnew] at hst
    simp only [mkP] at hh ⊢
    repeat' first | (with_reducible first | refine zA ?_ | refine zB ?_ | refine zO ?_ | refine zJ ?_ | refine zG ?_) | ((with_reducible refine And.intro ?_ ?_); · exact Sq) | ((first | with_reducible refine zC fun KC J hJ hKC => ?_ | (refine hKC _ _ _ _ _ (zw [0, 1] hh rfl rfl rfl (by decide) (by simp) rfl (zp rfl rfl rfl) Lq ?_))); simp (maxSteps := 9999999) only [push_cast, seval, ↓reduceIte, hlt, hge, hwn, e1', undef, List.cons_append, List.nil_append, zAQ, mOf, idx]) | ((with_reducible refine hJ _ _ ?_); clear hJ hKC KC J) | ((with_reducible refine zF ?_ ?_); · rfl) | ((with_reducible refine zH ?_ ?_); · rfl)
    refine ⟨⟨i + 1, by omega⟩, by simp only; omega, ?_, ?_⟩
    ·exact Lq
    ·simp only [hst]; exact ⟨_, rfl⟩
   case true =>
    rw [show vIL q.sp q.us q.o (p, v, c) = [zCN q.sp v] by unfold vIL; rw [if_pos ⟨e1, hhb⟩]] at hst
    have t1 := zCt q L v (by omega)
    obtain ⟨L1, hL1⟩ : ∃ l, L ++ [zCN q.sp v] = l := ⟨_, rfl⟩
    have lL1 : L1.length = L.length + 1 := by rw [← hL1]; simp
    rw [hL1] at t1
    have hnew : L ++ [zCN q.sp v] = L1 := by rw [← hL1]; try simp only [List.append_assoc, List.cons_append, List.nil_append, List.append_nil]
    rw [hnew] at hst
    simp only [mkP] at t1 hh ⊢
    repeat' first | (with_reducible first | refine zA ?_ | refine zB ?_ | refine zO ?_ | refine zJ ?_ | refine zG ?_) | ((with_reducible refine And.intro ?_ ?_); · exact Sq) | ((first | with_reducible refine zC fun KC J hJ hKC => ?_ | (refine hKC _ _ _ _ _ (zw [0, 1] hh rfl rfl rfl (by decide) (by simp) rfl (zp rfl rfl rfl) Lq ?_)) | (refine hKC _ _ _ _ _ (zw [0, 1] t1 rfl rfl rfl (by decide) (by simp) rfl (zp rfl rfl rfl) Lq ?_))); simp (maxSteps := 9999999) only [push_cast, seval, ↓reduceIte, hlt, hge, hwn, e1', undef, List.cons_append, List.nil_append, zAQ, mOf, idx]) | ((with_reducible refine hJ _ _ ?_); clear hJ hKC KC J) | ((with_reducible refine zF ?_ ?_); · rfl)
    refine ⟨⟨i + 1, by omega⟩, by simp only; omega, ?_, ?_⟩
    ·exact Lq
    ·simp only [hst]; exact ⟨_, rfl⟩
  ·have e1' : (p == 1) = false := by simpa using e1
   rw [show vIL q.sp q.us q.o (p, v, c) = [] by unfold vIL; rw [if_neg (fun h => e1 h.1)]] at hst
   have hnew : L ++ [] = L := by simp only [List.append_assoc, List.cons_append, List.nil_append, List.append_nil]
   rw [hnew] at hst
   simp only [mkP]
   repeat' first | (with_reducible first | refine zA ?_ | refine zB ?_ | refine zO ?_ | refine zJ ?_ | refine zG ?_) | ((with_reducible refine And.intro ?_ ?_); · exact Sq) | ((with_reducible refine zC fun KC J hJ hKC => ?_); simp (maxSteps := 9999999) only [push_cast, seval, ↓reduceIte, hlt, hge, hwn, e1', undef, List.cons_append, List.nil_append, zAQ, mOf, idx]) | ((with_reducible refine hJ _ _ ?_); clear hJ hKC KC J) | ((with_reducible refine zF ?_ ?_); · rfl) | ((with_reducible refine zH ?_ ?_); · rfl)
   refine ⟨⟨i + 1, by omega⟩, by simp only; omega, ?_, ?_⟩
   ·exact Lq
   ·simp only [hst]; exact ⟨_, rfl⟩
 have hin : i = (b.code).length := by omega
 have hend : ((b.code).take i).flatMap (vIL q.sp q.us q.o) = (b.code).flatMap (vIL q.sp q.us q.o) := by rw [hin, List.take_length]
 rw [hend]
 obtain ⟨A1, hA1⟩ : ∃ l, (b.code).flatMap (vIL q.sp q.us q.o) = l := ⟨_, rfl⟩
 have lA1 : A1.length ≤ 150 := by
  have hb := zAG (zIH q.sp q.us q.o) (b.code)
  rw [← hA1]; (try simp only [List.length_take] at hb); omega
 rw [hA1]
 simp only [mkP]
 repeat' first | (with_reducible first | refine zA ?_ | refine zB ?_ | refine zX ?_ | refine zW ?_ | refine zQ ?_ | refine zG ?_) | ((with_reducible refine zC fun KC J hJ hKC => ?_); simp (maxSteps := 9999999) only [push_cast, seval, ↓reduceIte, hlt, Int.lt_irrefl]) | ((with_reducible refine hJ _ _ ?_); clear hJ hKC KC J) | ((with_reducible refine zH ?_ ?_); · rfl)
 refine zi 4 (γ := {i : Nat // i ≤ (b.mem).length}) (fun i => ⟨[.ptr 0 0 0, .any, .any, .any, .ptr 2 0 0, .ptr 3 0 0, .any, .any, .any, .any, .any, .any, .any, .any, .any, .any, .any, .any, .any, .any, .any, .any, .any, .any, .any, .any, .any, .any, .any, .any, .any, .any, .any, .any, .any, .any, .any, .any, .any, .any, .any, .any, .sl g2 2 (zR (b.mem)), .v (.int .i64 (b.mem).length), .v (.int .i64 i.1), .any, .any, .any, .any, .any, .any, .any, .any, .any, .any, .any, .any, .any, .any, .any, .any, .any, .any, .any, .any, .any, .any, .any, .any, .any, .any, .any, .any, .any, .any, .any, .any, .any, .any, .any, .any, .any, .any, .any, .any, .any, .any, .any, .any, .any, .any, .any, .any, .any, .any, .any, .any, .any, .any, .any, .any, .any, .any, .any, .any, .any, .any, .any, .any, .any, .any, .any, .any, .any, .any, .any, .any, .any, .any, .any, .any, .any, .any, .any, .any, .any, .any, .any, .any, .any, .any, .any, .any, .any, .any, .any, .any, .any, .any, .any, .any, .any, .any, .any, .any, .any, .any, .any], [.ent (mkP q 1 (A1 ++ ((b.mem).take i.1).flatMap (vAL q.sp q.us q.o))), zAw (A1 ++ ((b.mem).take i.1).flatMap (vAL q.sp q.us q.o)), .ent ⟨0, none, 39, [.v (.int .i64 a.v), .v (.int .i64 a.l), .sl f1 3 (zh a.code), .sl f2 2 (zR a.mem), .sl f3 3 (zc a.stack), .sl f4 2 (zR a.out)], .cells⟩, .ent ⟨0, none, 39, [.v (.int .i64 b.v), .v (.int .i64 b.l), .sl g1 3 (zh b.code), .sl g2 2 (zR b.mem), .sl g3 3 (zc b.stack), .sl g4 2 (zR b.out)], .cells⟩]⟩) (fun i => (b.mem).length - i.1) ⟨0, by omega⟩ (fun i => rfl) (fun i => ?_) (fun i => rfl) ⟨?_, ?_⟩ ?_
 ·refine zr ?_
  simp only [List.map_cons, List.map_nil, zx, zBd, zBs, zCi, zDA, show mOf (List.range 4) 1 = some 1 from rfl, zBJ]
  rfl
 ·exact Lq
 ·simp only [List.take_zero, List.flatMap_nil, List.append_nil]
  exact Fq
 rintro ⟨i, hi⟩
 dsimp only
 by_cases hlt : (i : Int) < ((b.mem).length : Int)
 ·have hx : (b.mem)[i]? = some (b.mem)[i] := List.getElem?_eq_getElem (by omega)
  obtain ⟨x, hx0⟩ : ∃ x, (b.mem)[i] = x := ⟨_, rfl⟩
  rw [hx0] at hx
  have hst : A1 ++ ((b.mem).take (i + 1)).flatMap (vAL q.sp q.us q.o) = (A1 ++ ((b.mem).take i).flatMap (vAL q.sp q.us q.o)) ++ vAL q.sp q.us q.o x := by rw [zBW hx, List.append_assoc]
  have hwn := zb (i := i) (n := (b.mem).length) (by omega) (by omega)
  have hLl : (A1 ++ ((b.mem).take i).flatMap (vAL q.sp q.us q.o)).length ≤ 300 := by
   have hb := zAG (zHg q.sp q.us q.o) ((b.mem).take i)
   rw [List.length_take] at hb
   rw [List.length_append]
   omega
  have hlab := hmL x (List.mem_of_getElem? hx)
  obtain ⟨L, hL⟩ : ∃ L, A1 ++ ((b.mem).take i).flatMap (vAL q.sp q.us q.o) = L := ⟨_, rfl⟩
  rw [hL] at hst hLl ⊢
  obtain ⟨v, c⟩ := x
  have hge := zAK hx
  simp only at hge hlab
  have hh := zCW q hq L c hlab
  obtain ⟨hb, hhb⟩ : ∃ b, hid q.us q.o c = b := ⟨_, rfl⟩
  rw [hhb] at hh
  cases hb
  case false =>
   rw [show vAL q.sp q.us q.o (v, c) = [] by unfold vAL; rw [if_neg (by rw [hhb]; simp)]] at hst
   have hnew : L ++ [] = L := by simp only [List.append_assoc, List.cons_append, List.nil_append, List.append_nil]
   rw [hnew] at hst
   simp only [mkP] at hh ⊢
   repeat' first | (with_reducible first | refine zA ?_ | refine zB ?_ | refine zO ?_ | refine zJ ?_ | refine zG ?_) | ((with_reducible refine And.intro ?_ ?_); · exact Sq) | ((first | with_reducible refine zC fun KC J hJ hKC => ?_ | (refine hKC _ _ _ _ _ (zw [0, 1] hh rfl rfl rfl (by decide) (by simp) rfl (zp rfl rfl rfl) Lq ?_))); simp (maxSteps := 9999999) only [push_cast, seval, ↓reduceIte, hlt, hge, hwn, undef, List.cons_append, List.nil_append, zAQ, mOf, idx]) | ((with_reducible refine hJ _ _ ?_); clear hJ hKC KC J) | ((with_reducible refine zF ?_ ?_); · rfl) | ((with_reducible refine zH ?_ ?_); · rfl)
   refine ⟨⟨i + 1, by omega⟩, by simp only; omega, ?_, ?_⟩
   ·exact Lq
   ·simp only [hst]; exact ⟨_, rfl⟩
  case true =>
   rw [show vAL q.sp q.us q.o (v, c) = [zCN q.sp v] by unfold vAL; rw [if_pos hhb]] at hst
   have t1 := zCt q L v (by omega)
   obtain ⟨L1, hL1⟩ : ∃ l, L ++ [zCN q.sp v] = l := ⟨_, rfl⟩
   have lL1 : L1.length = L.length + 1 := by rw [← hL1]; simp
   rw [hL1] at t1
   have hnew : L ++ [zCN q.sp v] = L1 := by rw [← hL1]; try simp only [List.append_assoc, List.cons_append, List.nil_append, List.append_nil]
   rw [hnew] at hst
   simp only [mkP] at t1 hh ⊢
   repeat' first | (with_reducible first | refine zA ?_ | refine zB ?_ | refine zO ?_ | refine zJ ?_ | refine zG ?_) | ((with_reducible refine And.intro ?_ ?_); · exact Sq) | ((first | with_reducible refine zC fun KC J hJ hKC => ?_ | (refine hKC _ _ _ _ _ (zw [0, 1] hh rfl rfl rfl (by decide) (by simp) rfl (zp rfl rfl rfl) Lq ?_)) | (refine hKC _ _ _ _ _ (zw [0, 1] t1 rfl rfl rfl (by decide) (by simp) rfl (zp rfl rfl rfl) Lq ?_))); simp (maxSteps := 9999999) only [push_cast, seval, ↓reduceIte, hlt, hge, hwn, undef, List.cons_append, List.nil_append, zAQ, mOf, idx]) | ((with_reducible refine hJ _ _ ?_); clear hJ hKC KC J) | ((with_reducible refine zF ?_ ?_); · rfl)
   refine ⟨⟨i + 1, by omega⟩, by simp only; omega, ?_, ?_⟩
   ·exact Lq
   ·simp only [hst]; exact ⟨_, rfl⟩
 have hin : i = (b.mem).length := by omega
 have hend : A1 ++ ((b.mem).take i).flatMap (vAL q.sp q.us q.o) = A1 ++ (b.mem).flatMap (vAL q.sp q.us q.o) := by rw [hin, List.take_length]
 rw [hend]
 obtain ⟨A2, hA2⟩ : ∃ l, A1 ++ (b.mem).flatMap (vAL q.sp q.us q.o) = l := ⟨_, rfl⟩
 have lA2 : A2.length ≤ 300 := by
  have hb := zAG (zHg q.sp q.us q.o) (b.mem)
  rw [← hA2, List.length_append]; (try simp only [List.length_take] at hb); omega
 rw [hA2]
 have u1 := zCW q hq A2 a.l haL
 obtain ⟨hi2, hhi⟩ : ∃ b, hid q.us q.o a.l = b := ⟨_, rfl⟩
 rw [hhi] at u1
 cases hi2
 case false =>
  have hfin : zAa q.sp q.us q.o a b = A2 ++ b.stack.flatMap (vSL q.sp q.us q.o) := by
   unfold zAa; rw [if_neg (by rw [hhi]; simp), ← hA2, ← hA1, List.append_assoc]
  rw [hfin]
  have htk : b.stack.take b.stack.length = b.stack := List.take_length
  simp only [mkP] at u1 ⊢
  repeat' first | (with_reducible first | refine zA ?_ | refine zB ?_ | refine zX ?_ | refine zW ?_ | refine zJ ?_ | refine zQ ?_ | refine zG ?_) | ((with_reducible refine And.intro ?_ ?_); · exact Sq) | ((first | with_reducible refine zC fun KC J hJ hKC => ?_ | (refine hKC _ _ _ _ _ (zw [0, 1] u1 rfl rfl rfl (by decide) (by simp) rfl (zp rfl rfl rfl) Lq ?_))); simp (maxSteps := 9999999) only [push_cast, seval, ↓reduceIte, hlt, Int.lt_irrefl, List.cons_append, List.nil_append, zAQ, mOf, idx, Int.toNat_natCast, zCo, htk]) | ((with_reducible refine hJ _ _ ?_); clear hJ hKC KC J) | ((with_reducible refine zH ?_ ?_); · rfl)
  refine zi 4 (γ := {i : Nat // i ≤ (b.stack).length}) (fun i => ⟨[.ptr 0 0 0, .any, .any, .any, .ptr 2 0 0, .ptr 3 0 0, .any, .any, .any, .any, .any, .v (.bool false), .any, .any, .any, .any, .any, .any, .any, .any, .any, .any, .any, .any, .any, .any, .any, .any, .any, .any, .any, .any, .any, .any, .any, .any, .any, .any, .any, .any, .any, .any, .any, .any, .any, .any, .any, .any, .any, .any, .any, .any, .any, .any, .any, .any, .any, .any, .any, .any, .any, .any, .any, .any, .any, .any, .any, .any, .any, .any, .any, .any, .any, .any, .any, .any, .any, .any, .any, .any, .any, .any, .any, .any, .any, .sl false 3 (zc (b.stack)), .v (.int .i64 (b.stack).length), .v (.int .i64 i.1), .any, .any, .any, .any, .any, .any, .any, .any, .any, .any, .any, .any, .any, .any, .any, .any, .any, .any, .any, .any, .any, .any, .any, .any, .any, .any, .any, .any, .any, .any, .any, .any, .any, .any, .any, .any, .any, .any, .any, .any, .any, .any, .any, .any, .any, .any, .any, .any, .any, .any, .any, .any, .any, .any, .any, .any, .any, .any, .any, .any], [.ent (mkP q 1 (A2 ++ ((b.stack).take i.1).flatMap (vSL q.sp q.us q.o))), zAw (A2 ++ ((b.stack).take i.1).flatMap (vSL q.sp q.us q.o)), .ent ⟨0, none, 39, [.v (.int .i64 a.v), .v (.int .i64 a.l), .sl f1 3 (zh a.code), .sl f2 2 (zR a.mem), .sl f3 3 (zc a.stack), .sl f4 2 (zR a.out)], .cells⟩, .ent ⟨0, none, 39, [.v (.int .i64 b.v), .v (.int .i64 b.l), .sl g1 3 (zh b.code), .sl g2 2 (zR b.mem), .sl g3 3 (zc b.stack), .sl g4 2 (zR b.out)], .cells⟩]⟩) (fun i => (b.stack).length - i.1) ⟨0, by omega⟩ (fun i => rfl) (fun i => ?_) (fun i => rfl) ⟨?_, ?_⟩ ?_
  ·refine zr ?_
   simp only [List.map_cons, List.map_nil, zx, zBd, zBs, zCi, zDA, show mOf (List.range 4) 1 = some 1 from rfl, zBJ]
   rfl
  ·exact Lq
  ·simp only [List.take_zero, List.flatMap_nil, List.append_nil]
   exact Fq
  rintro ⟨i, hi⟩
  dsimp only
  by_cases hlt : (i : Int) < ((b.stack).length : Int)
  ·have hx : (b.stack)[i]? = some (b.stack)[i] := List.getElem?_eq_getElem (by omega)
   obtain ⟨x, hx0⟩ : ∃ x, (b.stack)[i] = x := ⟨_, rfl⟩
   rw [hx0] at hx
   have hst : A2 ++ ((b.stack).take (i + 1)).flatMap (vSL q.sp q.us q.o) = (A2 ++ ((b.stack).take i).flatMap (vSL q.sp q.us q.o)) ++ vSL q.sp q.us q.o x := by rw [zBW hx, List.append_assoc]
   have hwn := zb (i := i) (n := (b.stack).length) (by omega) (by omega)
   have hLl : (A2 ++ ((b.stack).take i).flatMap (vSL q.sp q.us q.o)).length ≤ 450 := by
    have hb := zAG (zDw q.sp q.us q.o) ((b.stack).take i)
    rw [List.length_take] at hb
    rw [List.length_append]
    omega
   have hlab := hsL x (List.mem_of_getElem? hx)
   obtain ⟨L, hL⟩ : ∃ L, A2 ++ ((b.stack).take i).flatMap (vSL q.sp q.us q.o) = L := ⟨_, rfl⟩
   rw [hL] at hst hLl ⊢
   obtain ⟨r, v, c⟩ := x
   have hge := zAJ hx
   simp only at hge hlab
   have hh := zCW q hq L c hlab
   obtain ⟨hb, hhb⟩ : ∃ b, hid q.us q.o c = b := ⟨_, rfl⟩
   rw [hhb] at hh
   cases hb
   case false =>
    rw [show vSL q.sp q.us q.o (r, v, c) = [] by unfold vSL; rw [if_neg (by rw [hhb]; simp)]] at hst
    have hnew : L ++ [] = L := by simp only [List.append_assoc, List.cons_append, List.nil_append, List.append_nil]
    rw [hnew] at hst
    simp only [mkP] at hh ⊢
    repeat' first | (with_reducible first | refine zA ?_ | refine zB ?_ | refine zO ?_ | refine zJ ?_ | refine zG ?_) | ((with_reducible refine And.intro ?_ ?_); · exact Sq) | ((first | with_reducible refine zC fun KC J hJ hKC => ?_ | (refine hKC _ _ _ _ _ (zw [0, 1] hh rfl rfl rfl (by decide) (by simp) rfl (zp rfl rfl rfl) Lq ?_))); simp (maxSteps := 9999999) only [push_cast, seval, ↓reduceIte, hlt, hge, hwn, undef, List.cons_append, List.nil_append, zAQ, mOf, idx]) | ((with_reducible refine hJ _ _ ?_); clear hJ hKC KC J) | ((with_reducible refine zF ?_ ?_); · rfl) | ((with_reducible refine zH ?_ ?_); · rfl)
    refine ⟨⟨i + 1, by omega⟩, by simp only; omega, ?_, ?_⟩
    ·exact Lq
    ·simp only [hst]; exact ⟨_, rfl⟩
   case true =>
    rw [show vSL q.sp q.us q.o (r, v, c) = [zCl q.sp (r, v, c)] by unfold vSL; rw [if_pos hhb]] at hst
    have t1 := zEe q L (r, v, c) (by omega)
    obtain ⟨L1, hL1⟩ : ∃ l, L ++ [zCl q.sp (r, v, c)] = l := ⟨_, rfl⟩
    have lL1 : L1.length = L.length + 1 := by rw [← hL1]; simp
    rw [hL1] at t1
    have hnew : L ++ [zCl q.sp (r, v, c)] = L1 := by rw [← hL1]; try simp only [List.append_assoc, List.cons_append, List.nil_append, List.append_nil]
    rw [hnew] at hst
    simp only [mkP] at t1 hh ⊢
    repeat' first | (with_reducible first | refine zA ?_ | refine zB ?_ | refine zO ?_ | refine zJ ?_ | refine zG ?_) | ((with_reducible refine And.intro ?_ ?_); · exact Sq) | ((first | with_reducible refine zC fun KC J hJ hKC => ?_ | (refine hKC _ _ _ _ _ (zw [0, 1] hh rfl rfl rfl (by decide) (by simp) rfl (zp rfl rfl rfl) Lq ?_)) | (refine hKC _ _ _ _ _ (zw [0, 1] t1 rfl rfl rfl (by decide) (by simp) rfl (zp rfl rfl rfl) Lq ?_))); simp (maxSteps := 9999999) only [push_cast, seval, ↓reduceIte, hlt, hge, hwn, undef, List.cons_append, List.nil_append, zAQ, mOf, idx]) | ((with_reducible refine hJ _ _ ?_); clear hJ hKC KC J) | ((with_reducible refine zF ?_ ?_); · rfl)
    refine ⟨⟨i + 1, by omega⟩, by simp only; omega, ?_, ?_⟩
    ·exact Lq
    ·simp only [hst]; exact ⟨_, rfl⟩
  have hin : i = (b.stack).length := by omega
  have hend : A2 ++ ((b.stack).take i).flatMap (vSL q.sp q.us q.o) = A2 ++ (b.stack).flatMap (vSL q.sp q.us q.o) := by rw [hin, List.take_length]
  rw [hend]
  obtain ⟨A3, hA3⟩ : ∃ l, A2 ++ (b.stack).flatMap (vSL q.sp q.us q.o) = l := ⟨_, rfl⟩
  have lA3 : A3.length ≤ 450 := by
   have hb := zAG (zDw q.sp q.us q.o) (b.stack)
   rw [← hA3, List.length_append]; (try simp only [List.length_take] at hb); omega
  rw [hA3]
  simp only [mkP]
  repeat' first | (with_reducible first | refine zA ?_ | refine zB ?_ | refine zX ?_ | refine zW ?_ | refine zQ ?_) | ((with_reducible refine zC fun KC J hJ hKC => ?_); simp (maxSteps := 9999999) only [push_cast, seval, ↓reduceIte, hlt, Int.lt_irrefl]) | ((with_reducible refine hJ _ _ ?_); clear hJ hKC KC J) | ((with_reducible refine zF ?_ ?_); · rfl) | ((with_reducible refine zH ?_ ?_); · rfl)
  refine zI ?_
  exact zSI rfl rfl rfl
 case true =>
  obtain ⟨k, hk⟩ : ∃ k, (zAV q.us q.o b.stack).length = k := ⟨_, rfl⟩
  have hcrop := zMP q.f q.g g3 q.ns q.us (q.o : Int) b.stack hq.szs hq.u32 (by omega)
  rw [zID hq.chk hsL (zFd.2 ⟨by omega, by have := hq.lab; omega⟩), zPi hq.chk hsL (zFd.2 ⟨by omega, by have := hq.lab; omega⟩)] at hcrop
  have hcr : zAV q.us q.o b.stack = b.stack.take k := by rw [← hk]; unfold zAV; rw [List.length_take, Nat.min_eq_left (zHx _ _)]
  have hkl : k ≤ b.stack.length := by rw [← hk]; unfold zAV; rw [List.length_take]; omega
  have hrl : (zc (zAV q.us q.o b.stack)).length = k := by simp [zc, hk]
  obtain ⟨CR, hCR⟩ : ∃ r, zc (zAV q.us q.o b.stack) = r := ⟨_, rfl⟩
  rw [hCR] at hcrop hrl
  have htl : (b.stack.take k).length = k := by rw [List.length_take]; omega
  have hsT : ∀ x ∈ b.stack.take k, zn q.us.length x.2.2 = false := fun x hx => hsL x (List.mem_of_mem_take hx)
  have hsD : ∀ x ∈ b.stack.drop k, zn q.us.length x.2.2 = false := fun x hx => hsL x (List.mem_of_mem_drop hx)
  have hdl : (b.stack.drop k).length = b.stack.length - k := List.length_drop
  have hfin : zAa q.sp q.us q.o a b = ((((A2 ++ (b.stack.take k).flatMap (vSL q.sp q.us q.o)) ++ [(b.stack.length : Int) - (k : Int)]) ++ (b.stack.drop k).flatMap (zBZ q.sp)) ++ [b.v]) ++ [(zDR q.us q.o b.l : Int)] := by
   unfold zAa; rw [if_pos hhi, hk, hcr, ← hA2, ← hA1]; simp only [List.append_assoc, List.cons_append, List.nil_append]
  rw [hfin]
  have hle1 : ¬ ((k : Int) < 0) := by omega
  have hle2 : ((k : Int) ≤ (b.stack.length : Int)) = True := eq_true (by omega)
  simp only [mkP] at u1 ⊢
  repeat' first | (with_reducible first | refine zA ?_ | refine zB ?_ | refine zX ?_ | refine zW ?_ | refine zQ ?_ | refine zG ?_) | ((with_reducible refine And.intro ?_ ?_); · exact Sq) | ((first | with_reducible refine zC fun KC J hJ hKC => ?_ | with_reducible refine zU rfl fun KC J hJ hKC => ?_ | (refine hKC _ _ _ _ _ (zw [0, 1] u1 rfl rfl rfl (by decide) (by simp) rfl (zp rfl rfl rfl) Lq ?_)) | (refine hKC _ _ _ _ _ (zD (hcrop) rfl rfl rfl ?_ ?_); (· exact Lq))); simp (maxSteps := 9999999) only [push_cast, seval, ↓reduceIte, hlt, Int.lt_irrefl, hrl, hle2, List.cons_append, List.nil_append, zAQ, mOf, idx, Int.toNat_natCast, zCo]) | ((first | with_reducible refine hJ _ _ ?_ | (with_reducible refine hJ _ _ ?_ ?_; · kernel_rfl)); clear hJ hKC KC J) | ((with_reducible refine zF ?_ ?_); · rfl) | ((with_reducible refine zH ?_ ?_); · rfl)
  refine zi 4 (γ := {i : Nat // i ≤ (b.stack.take k).length}) (fun i => ⟨[.ptr 0 0 0, .any, .any, .any, .ptr 2 0 0, .ptr 3 0 0, .any, .any, .any, .any, .v (.int .i64 (k : Int)), .v (.bool true), .any, .any, .any, .any, .any, .any, .any, .any, .any, .any, .any, .any, .any, .any, .any, .any, .any, .any, .any, .any, .any, .any, .any, .any, .any, .any, .any, .any, .any, .any, .any, .any, .any, .any, .any, .any, .any, .any, .any, .any, .any, .any, .any, .any, .any, .any, .any, .any, .any, .any, .any, .any, .any, .any, .any, .any, .any, .any, .any, .any, .any, .any, .any, .any, .any, .any, .any, .any, .any, .any, .any, .any, .any, .sl false 3 (zc (b.stack.take k)), .v (.int .i64 (b.stack.take k).length), .v (.int .i64 i.1), .any, .any, .any, .any, .any, .any, .any, .any, .any, .any, .any, .any, .any, .any, .any, .any, .any, .any, .any, .any, .any, .any, .any, .any, .any, .any, .any, .any, .any, .any, .any, .any, .any, .any, .any, .any, .any, .any, .any, .any, .any, .any, .any, .any, .any, .any, .any, .any, .any, .any, .any, .any, .any, .any, .any, .any, .any, .any, .any, .any], [.ent (mkP q 1 (A2 ++ ((b.stack.take k).take i.1).flatMap (vSL q.sp q.us q.o))), zAw (A2 ++ ((b.stack.take k).take i.1).flatMap (vSL q.sp q.us q.o)), .ent ⟨0, none, 39, [.v (.int .i64 a.v), .v (.int .i64 a.l), .sl f1 3 (zh a.code), .sl f2 2 (zR a.mem), .sl f3 3 (zc a.stack), .sl f4 2 (zR a.out)], .cells⟩, .ent ⟨0, none, 39, [.v (.int .i64 b.v), .v (.int .i64 b.l), .sl g1 3 (zh b.code), .sl g2 2 (zR b.mem), .sl g3 3 (zc b.stack), .sl g4 2 (zR b.out)], .cells⟩]⟩) (fun i => (b.stack.take k).length - i.1) ⟨0, by omega⟩ (fun i => rfl) (fun i => ?_) (fun i => rfl) ⟨?_, ?_⟩ ?_
  ·refine zr ?_
   simp only [List.map_cons, List.map_nil, zx, zBd, zBs, zCi, zDA, show mOf (List.range 4) 1 = some 1 from rfl, zBJ]
   rfl
  ·exact Lq
  ·simp only [List.take_zero, List.flatMap_nil, List.append_nil]
   exact Fq
  rintro ⟨i, hi⟩
  dsimp only
  by_cases hlt : (i : Int) < ((b.stack.take k).length : Int)
  ·have hx : (b.stack.take k)[i]? = some (b.stack.take k)[i] := List.getElem?_eq_getElem (by omega)
   obtain ⟨x, hx0⟩ : ∃ x, (b.stack.take k)[i] = x := ⟨_, rfl⟩
   rw [hx0] at hx
   have hst : A2 ++ ((b.stack.take k).take (i + 1)).flatMap (vSL q.sp q.us q.o) = (A2 ++ ((b.stack.take k).take i).flatMap (vSL q.sp q.us q.o)) ++ vSL q.sp q.us q.o x := by rw [zBW hx, List.append_assoc]
   have hwn := zb (i := i) (n := (b.stack.take k).length) (by omega) (by omega)
   have hLl : (A2 ++ ((b.stack.take k).take i).flatMap (vSL q.sp q.us q.o)).length ≤ 450 := by
    have hb := zAG (zDw q.sp q.us q.o) ((b.stack.take k).take i)
    rw [List.length_take] at hb
    rw [List.length_append]
    omega
   have hlab := hsT x (List.mem_of_getElem? hx)
   obtain ⟨L, hL⟩ : ∃ L, A2 ++ ((b.stack.take k).take i).flatMap (vSL q.sp q.us q.o) = L := ⟨_, rfl⟩
   rw [hL] at hst hLl ⊢
   obtain ⟨r, v, c⟩ := x
   have hge := zAJ hx
   simp only at hge hlab
   have hh := zCW q hq L c hlab
   obtain ⟨hb, hhb⟩ : ∃ b, hid q.us q.o c = b := ⟨_, rfl⟩
   rw [hhb] at hh
   cases hb
   case false =>
    rw [show vSL q.sp q.us q.o (r, v, c) = [] by unfold vSL; rw [if_neg (by rw [hhb]; simp)]] at hst
    have hnew : L ++ [] = L := by simp only [List.append_assoc, List.cons_append, List.nil_append, List.append_nil]
    rw [hnew] at hst
    simp only [mkP] at hh ⊢
    repeat' first | (with_reducible first | refine zA ?_ | refine zB ?_ | refine zO ?_ | refine zJ ?_ | refine zG ?_) | ((with_reducible refine And.intro ?_ ?_); · exact Sq) | ((first | with_reducible refine zC fun KC J hJ hKC => ?_ | (refine hKC _ _ _ _ _ (zw [0, 1] hh rfl rfl rfl (by decide) (by simp) rfl (zp rfl rfl rfl) Lq ?_))); simp (maxSteps := 9999999) only [push_cast, seval, ↓reduceIte, hlt, hge, hwn, undef, List.cons_append, List.nil_append, zAQ, mOf, idx]) | ((with_reducible refine hJ _ _ ?_); clear hJ hKC KC J) | ((with_reducible refine zF ?_ ?_); · rfl) | ((with_reducible refine zH ?_ ?_); · rfl)
    refine ⟨⟨i + 1, by omega⟩, by simp only; omega, ?_, ?_⟩
    ·exact Lq
    ·simp only [hst]; exact ⟨_, rfl⟩
   case true =>
    rw [show vSL q.sp q.us q.o (r, v, c) = [zCl q.sp (r, v, c)] by unfold vSL; rw [if_pos hhb]] at hst
    have t1 := zEe q L (r, v, c) (by omega)
    obtain ⟨L1, hL1⟩ : ∃ l, L ++ [zCl q.sp (r, v, c)] = l := ⟨_, rfl⟩
    have lL1 : L1.length = L.length + 1 := by rw [← hL1]; simp
    rw [hL1] at t1
    have hnew : L ++ [zCl q.sp (r, v, c)] = L1 := by rw [← hL1]; try simp only [List.append_assoc, List.cons_append, List.nil_append, List.append_nil]
    rw [hnew] at hst
    simp only [mkP] at t1 hh ⊢
    repeat' first | (with_reducible first | refine zA ?_ | refine zB ?_ | refine zO ?_ | refine zJ ?_ | refine zG ?_) | ((with_reducible refine And.intro ?_ ?_); · exact Sq) | ((first | with_reducible refine zC fun KC J hJ hKC => ?_ | (refine hKC _ _ _ _ _ (zw [0, 1] hh rfl rfl rfl (by decide) (by simp) rfl (zp rfl rfl rfl) Lq ?_)) | (refine hKC _ _ _ _ _ (zw [0, 1] t1 rfl rfl rfl (by decide) (by simp) rfl (zp rfl rfl rfl) Lq ?_))); simp (maxSteps := 9999999) only [push_cast, seval, ↓reduceIte, hlt, hge, hwn, undef, List.cons_append, List.nil_append, zAQ, mOf, idx]) | ((with_reducible refine hJ _ _ ?_); clear hJ hKC KC J) | ((with_reducible refine zF ?_ ?_); · rfl)
    refine ⟨⟨i + 1, by omega⟩, by simp only; omega, ?_, ?_⟩
    ·exact Lq
    ·simp only [hst]; exact ⟨_, rfl⟩
  have hin : i = (b.stack.take k).length := by omega
  have hend : A2 ++ ((b.stack.take k).take i).flatMap (vSL q.sp q.us q.o) = A2 ++ (b.stack.take k).flatMap (vSL q.sp q.us q.o) := by rw [hin, List.take_length]
  rw [hend]
  obtain ⟨A3, hA3⟩ : ∃ l, A2 ++ (b.stack.take k).flatMap (vSL q.sp q.us q.o) = l := ⟨_, rfl⟩
  have lA3 : A3.length ≤ 450 := by
   have hb := zAG (zDw q.sp q.us q.o) (b.stack.take k)
   rw [← hA3, List.length_append]; (try simp only [List.length_take] at hb); omega
  rw [hA3]
  have k1 := zAg q A3 ((b.stack.length : Int) - (k : Int)) (by omega)
  obtain ⟨A4, hA4⟩ : ∃ l, A3 ++ [(b.stack.length : Int) - (k : Int)] = l := ⟨_, rfl⟩
  have lA4 : A4.length = A3.length + 1 := by rw [← hA4]; simp
  have hsub : IntKind.i64.wrap ((b.stack.length : Int) - (k : Int)) = (b.stack.length : Int) - (k : Int) := by rw [IntKind.wrap_i64]; omega
  rw [hA4] at k1
  simp only [mkP, hA4] at k1 ⊢
  rw [htl] at hlt ⊢
  have htk : b.stack.take b.stack.length = b.stack := List.take_length
  repeat' first | (with_reducible first | refine zA ?_ | refine zB ?_ | refine zX ?_ | refine zW ?_ | refine zJ ?_ | refine zQ ?_ | refine zG ?_) | ((with_reducible refine And.intro ?_ ?_); · exact Sq) | ((first | with_reducible refine zC fun KC J hJ hKC => ?_ | (refine hKC _ _ _ _ _ (zw [0, 1] k1 rfl rfl rfl (by decide) (by simp) rfl (zp rfl rfl rfl) Lq ?_))); simp (maxSteps := 9999999) only [push_cast, seval, ↓reduceIte, hlt, Int.lt_irrefl, hsub, hle2, htk, List.cons_append, List.nil_append, zAQ, mOf, idx, Int.toNat_natCast, zJi]) | ((with_reducible refine hJ _ _ ?_); clear hJ hKC KC J) | ((with_reducible refine zH ?_ ?_); · rfl)
  refine zi 4 (γ := {i : Nat // i ≤ (b.stack.drop k).length}) (fun i => ⟨[.ptr 0 0 0, .any, .any, .any, .ptr 2 0 0, .ptr 3 0 0, .any, .any, .any, .any, .any, .any, .any, .any, .any, .any, .any, .any, .any, .any, .any, .any, .any, .any, .any, .any, .any, .any, .any, .any, .any, .any, .any, .any, .any, .any, .any, .any, .any, .any, .any, .any, .any, .any, .any, .any, .any, .any, .any, .any, .any, .any, .any, .any, .any, .any, .any, .any, .any, .any, .any, .any, .any, .any, .any, .any, .any, .any, .any, .any, .any, .any, .any, .any, .any, .any, .any, .any, .any, .any, .any, .any, .any, .any, .any, .any, .any, .any, .any, .any, .any, .any, .any, .any, .any, .any, .any, .any, .any, .any, .any, .any, .any, .any, .any, .any, .any, .any, .any, .any, .any, .sl false 3 (zc (b.stack.drop k)), .v (.int .i64 (b.stack.drop k).length), .v (.int .i64 i.1), .any, .any, .any, .any, .any, .any, .any, .any, .any, .any, .any, .any, .any, .any, .any, .any, .any, .any, .any, .any, .any, .any, .any, .any, .any, .any, .any, .any, .any, .any, .any, .any, .any, .any], [.ent (mkP q 1 (A4 ++ ((b.stack.drop k).take i.1).flatMap (zBZ q.sp))), zAw (A4 ++ ((b.stack.drop k).take i.1).flatMap (zBZ q.sp)), .ent ⟨0, none, 39, [.v (.int .i64 a.v), .v (.int .i64 a.l), .sl f1 3 (zh a.code), .sl f2 2 (zR a.mem), .sl f3 3 (zc a.stack), .sl f4 2 (zR a.out)], .cells⟩, .ent ⟨0, none, 39, [.v (.int .i64 b.v), .v (.int .i64 b.l), .sl g1 3 (zh b.code), .sl g2 2 (zR b.mem), .sl g3 3 (zc b.stack), .sl g4 2 (zR b.out)], .cells⟩]⟩) (fun i => (b.stack.drop k).length - i.1) ⟨0, by omega⟩ (fun i => rfl) (fun i => ?_) (fun i => rfl) ⟨?_, ?_⟩ ?_
  ·refine zr ?_
   simp only [List.map_cons, List.map_nil, zx, zBd, zBs, zCi, zDA, show mOf (List.range 4) 1 = some 1 from rfl, zBJ]
   rfl
  ·exact Lq
  ·simp only [List.take_zero, List.flatMap_nil, List.append_nil]
   exact Fq
  rintro ⟨i, hi⟩
  dsimp only
  by_cases hlt : (i : Int) < ((b.stack.drop k).length : Int)
  ·have hx : (b.stack.drop k)[i]? = some (b.stack.drop k)[i] := List.getElem?_eq_getElem (by omega)
   obtain ⟨x, hx0⟩ : ∃ x, (b.stack.drop k)[i] = x := ⟨_, rfl⟩
   rw [hx0] at hx
   have hst : A4 ++ ((b.stack.drop k).take (i + 1)).flatMap (zBZ q.sp) = (A4 ++ ((b.stack.drop k).take i).flatMap (zBZ q.sp)) ++ zBZ q.sp x := by rw [zBW hx, List.append_assoc]
   have hwn := zb (i := i) (n := (b.stack.drop k).length) (by omega) (by omega)
   have hLl : (A4 ++ ((b.stack.drop k).take i).flatMap (zBZ q.sp)).length ≤ 650 := by
    have hb := zAG (zEE q.sp) ((b.stack.drop k).take i)
    rw [List.length_take] at hb
    rw [List.length_append]
    omega
   have hlab := hsD x (List.mem_of_getElem? hx)
   obtain ⟨L, hL⟩ : ∃ L, A4 ++ ((b.stack.drop k).take i).flatMap (zBZ q.sp) = L := ⟨_, rfl⟩
   rw [hL] at hst hLl ⊢
   obtain ⟨r, v, c⟩ := x
   have hge := zAJ hx
   simp only at hge hlab
   rw [show zBZ q.sp (r, v, c) = [zFM (r, v, c), c, zCl q.sp (r, v, c)] from rfl] at hst
   have t1 := zNY q L (r, v, c) (by omega)
   obtain ⟨L1, hL1⟩ : ∃ l, L ++ [zFM (r, v, c)] = l := ⟨_, rfl⟩
   have lL1 : L1.length = L.length + 1 := by rw [← hL1]; simp
   rw [hL1] at t1
   have t2 := zAg q L1 c (by omega)
   obtain ⟨L2, hL2⟩ : ∃ l, L1 ++ [c] = l := ⟨_, rfl⟩
   have lL2 : L2.length = L1.length + 1 := by rw [← hL2]; simp
   rw [hL2] at t2
   have t3 := zEe q L2 (r, v, c) (by omega)
   obtain ⟨L3, hL3⟩ : ∃ l, L2 ++ [zCl q.sp (r, v, c)] = l := ⟨_, rfl⟩
   have lL3 : L3.length = L2.length + 1 := by rw [← hL3]; simp
   rw [hL3] at t3
   have hnew : L ++ [zFM (r, v, c), c, zCl q.sp (r, v, c)] = L3 := by rw [← hL3, ← hL2, ← hL1]; try simp only [List.append_assoc, List.cons_append, List.nil_append, List.append_nil]
   rw [hnew] at hst
   simp only [mkP] at t1 t2 t3 ⊢
   repeat' first | (with_reducible first | refine zA ?_ | refine zB ?_ | refine zO ?_ | refine zJ ?_ | refine zG ?_) | ((with_reducible refine And.intro ?_ ?_); · exact Sq) | ((first | with_reducible refine zC fun KC J hJ hKC => ?_ | (refine hKC _ _ _ _ _ (zw [0, 1] t1 rfl rfl rfl (by decide) (by simp) rfl (zp rfl rfl rfl) Lq ?_)) | (refine hKC _ _ _ _ _ (zw [0, 1] t2 rfl rfl rfl (by decide) (by simp) rfl (zp rfl rfl rfl) Lq ?_)) | (refine hKC _ _ _ _ _ (zw [0, 1] t3 rfl rfl rfl (by decide) (by simp) rfl (zp rfl rfl rfl) Lq ?_))); simp (maxSteps := 9999999) only [push_cast, seval, ↓reduceIte, hlt, hge, hwn, List.cons_append, List.nil_append, zAQ, mOf, idx]) | ((with_reducible refine hJ _ _ ?_); clear hJ hKC KC J) | ((with_reducible refine zF ?_ ?_); · rfl)
   refine ⟨⟨i + 1, by omega⟩, by simp only; omega, ?_, ?_⟩
   ·exact Lq
   ·simp only [hst]; exact ⟨_, rfl⟩
  have hin : i = (b.stack.drop k).length := by omega
  have hend : A4 ++ ((b.stack.drop k).take i).flatMap (zBZ q.sp) = A4 ++ (b.stack.drop k).flatMap (zBZ q.sp) := by rw [hin, List.take_length]
  rw [hend]
  obtain ⟨A5, hA5⟩ : ∃ l, A4 ++ (b.stack.drop k).flatMap (zBZ q.sp) = l := ⟨_, rfl⟩
  have lA5 : A5.length ≤ 650 := by
   have hb := zAG (zEE q.sp) (b.stack.drop k)
   rw [← hA5, List.length_append]; (try simp only [List.length_take] at hb); omega
  rw [hA5]
  have k2 := zAg q A5 b.v (by omega)
  obtain ⟨A6, hA6⟩ : ∃ l, A5 ++ [b.v] = l := ⟨_, rfl⟩
  have lA6 : A6.length = A5.length + 1 := by rw [← hA6]; simp
  obtain ⟨N, hN, hNl⟩ := zAP hbL
  rw [hN]
  rw [hA6] at k2
  simp only [mkP, hA6, hN] at k2 ⊢
  repeat' first | (with_reducible first | refine zA ?_ | refine zB ?_ | refine zX ?_ | refine zW ?_ | refine zQ ?_ | refine zG ?_) | ((first | with_reducible refine zC fun KC J hJ hKC => ?_ | (refine hKC _ _ _ _ _ (zw [0, 1] k2 rfl rfl rfl (by decide) (by simp) rfl (zp rfl rfl rfl) Lq ?_))); simp (maxSteps := 9999999) only [push_cast, seval, ↓reduceIte, hlt, Int.lt_irrefl, List.cons_append, List.nil_append, zAQ, mOf, idx]) | ((with_reducible refine hJ _ _ ?_); clear hJ hKC KC J) | ((with_reducible refine zH ?_ ?_); · rfl)
  refine zi 4 (γ := {i : Nat // i ≤ N}) (fun i => ⟨[.ptr 0 0 0, .any, .any, .any, .any, .any, .any, .any, .any, .any, .any, .any, .any, .any, .any, .any, .any, .any, .v (.int .i64 (zDR q.us q.o (i.1 : Int) : Int)), .any, .any, .any, .any, .any, .any, .any, .any, .any, .any, .any, .any, .any, .any, .any, .any, .any, .any, .any, .any, .any, .any, .any, .any, .any, .any, .any, .any, .any, .any, .any, .any, .any, .any, .any, .any, .any, .any, .any, .any, .any, .any, .any, .any, .any, .any, .any, .any, .any, .any, .any, .any, .any, .any, .any, .any, .any, .any, .any, .any, .any, .any, .any, .any, .any, .any, .any, .any, .any, .any, .any, .any, .any, .any, .any, .any, .any, .any, .any, .any, .any, .any, .any, .any, .any, .any, .any, .any, .any, .any, .any, .any, .any, .any, .any, .any, .any, .any, .any, .any, .any, .any, .any, .any, .any, .any, .any, .any, .any, .any, .any, .any, .any, .any, .any, .any, .v (.int .i64 (N : Int)), .v (.int .i64 i.1), .any, .any, .any, .any, .any, .any, .any, .any, .any, .any, .any], [.ent (mkP q 1 A6), zAw A6, .ent ⟨0, none, 39, [.v (.int .i64 a.v), .v (.int .i64 a.l), .sl f1 3 (zh a.code), .sl f2 2 (zR a.mem), .sl f3 3 (zc a.stack), .sl f4 2 (zR a.out)], .cells⟩, .ent ⟨0, none, 39, [.v (.int .i64 b.v), .v (.int .i64 (N : Int)), .sl g1 3 (zh b.code), .sl g2 2 (zR b.mem), .sl g3 3 (zc b.stack), .sl g4 2 (zR b.out)], .cells⟩]⟩) (fun i => N - i.1) ⟨0, by omega⟩ (fun i => rfl) (fun i => ?_) (fun i => rfl) ⟨?_, ?_⟩ ?_
  ·refine zr ?_
   simp only [List.map_cons, List.map_nil, zx, zBd, zBs, zCi, zDA, show mOf (List.range 4) 1 = some 1 from rfl, zBJ]
   rfl
  ·simp only [show zDR q.us q.o ((0 : Nat) : Int) = 0 from rfl]
   exact Lq
  ·exact Fq
  rintro ⟨i, hi⟩
  dsimp only
  have hnb := zRQ q.us q.o i
  by_cases hlt : (i : Int) < (N : Int)
  ·have hh := zCW q hq A6 (i : Int) (zFd.2 (by omega))
   have hst := zOT q.us q.o i
   have hwn := zb (i := i) (n := N) (by omega) (by omega)
   obtain ⟨n, hn⟩ : ∃ n, zDR q.us q.o (i : Int) = n := ⟨_, rfl⟩
   rw [hn] at hst hnb ⊢
   have hwm := zb (i := n) (n := N) (by omega) (by omega)
   obtain ⟨hb, hhb⟩ : ∃ b, hid q.us q.o (i : Int) = b := ⟨_, rfl⟩
   rw [hhb] at hh hst
   cases hb
   case false =>
    rw [if_neg (by simp), Nat.add_zero] at hst
    simp only [mkP] at hh ⊢
    repeat' first | (with_reducible first | refine zA ?_ | refine zB ?_ | refine zO ?_ | refine zJ ?_ | refine zG ?_) | ((first | with_reducible refine zC fun KC J hJ hKC => ?_ | (refine hKC _ _ _ _ _ (zw [0, 1] hh rfl rfl rfl (by decide) (by simp) rfl (zp rfl rfl rfl) Lq ?_))); simp (maxSteps := 9999999) only [push_cast, seval, ↓reduceIte, hlt, hwn, hwm, List.cons_append, List.nil_append, zAQ, mOf, idx]) | ((with_reducible refine hJ _ _ ?_); clear hJ hKC KC J) | ((with_reducible refine zF ?_ ?_); · rfl) | ((with_reducible refine zH ?_ ?_); · rfl)
    refine ⟨⟨i + 1, by omega⟩, by simp only; omega, ?_, ?_⟩
    ·simp only [hst]
     exact Lq
    ·exact ⟨_, rfl⟩
   case true =>
    rw [if_pos rfl] at hst
    simp only [mkP] at hh ⊢
    repeat' first | (with_reducible first | refine zA ?_ | refine zB ?_ | refine zO ?_ | refine zJ ?_ | refine zG ?_) | ((first | with_reducible refine zC fun KC J hJ hKC => ?_ | (refine hKC _ _ _ _ _ (zw [0, 1] hh rfl rfl rfl (by decide) (by simp) rfl (zp rfl rfl rfl) Lq ?_))); simp (maxSteps := 9999999) only [push_cast, seval, ↓reduceIte, hlt, hwn, hwm, List.cons_append, List.nil_append, zAQ, mOf, idx]) | ((with_reducible refine hJ _ _ ?_); clear hJ hKC KC J) | ((with_reducible refine zF ?_ ?_); · rfl)
    refine ⟨⟨i + 1, by omega⟩, by simp only; omega, ?_, ?_⟩
    ·simp only [hst]
     exact Lq
    ·exact ⟨_, rfl⟩
  have hin : i = N := by omega
  subst hin
  have k3 := zAg q A6 (zDR q.us q.o (i : Int)) (by omega)
  obtain ⟨A7, hA7⟩ : ∃ l, A6 ++ [(zDR q.us q.o (i : Int) : Int)] = l := ⟨_, rfl⟩
  rw [hA7] at k3
  simp only [mkP, hA7] at k3 ⊢
  repeat' first | (with_reducible first | refine zA ?_ | refine zB ?_ | refine zX ?_ | refine zW ?_ | refine zQ ?_) | ((first | with_reducible refine zC fun KC J hJ hKC => ?_ | (refine hKC _ _ _ _ _ (zw [0, 1] k3 rfl rfl rfl (by decide) (by simp) rfl (zp rfl rfl rfl) Lq ?_))); simp (maxSteps := 9999999) only [push_cast, seval, ↓reduceIte, hlt, Int.lt_irrefl, List.cons_append, List.nil_append, zAQ, mOf, idx]) | ((with_reducible refine hJ _ _ ?_); clear hJ hKC KC J) | ((with_reducible refine zH ?_ ?_); · rfl)
  exact zFu rfl rfl rfl
theorem zBr (k : Nat) (L : List Int) : oE k L none = .sl true 1 (zK L) := rfl
theorem zBu (k g : Nat) (L : List Int) : oE k L (some g) = .ref k g L.length := rfl
theorem zBq (L : List Int) : oS L none = .free := rfl
theorem zBv (L : List Int) (g : Nat) : oS L (some g) = .ent ⟨g, some 1, 3, zY L, .cells⟩ := rfl
theorem zEy (f g : Bool) (ns : List ByteArray) (us : List Nat) (sp : Sp) (o : Nat) (l : List (Bool × Int × Int)) (hu : U32 us) (ho : o ≤ 1000) (hl : l.length ≤ 100) (hL : ∀ x ∈ l, zn us.length x.2.2 = false) :
  Fn Tryz.prog 88 [.agg [.sl f 1 (zM ns), .sl g 1 (zL us)], .agg (spF false sp), .v (.int .i64 (o : Int)), .sl false 3 (zc l)] [] (emD (l.flatMap (vSL sp us o))) [] := by
 simp only [spF]
 refine Fn.of (fn := Tryz.f88) (by kernel_rfl) rfl (by kernel_rfl) ⟨[.agg [.sl f 1 (zM ns), .sl g 1 (zL us)], .agg [.v (.int .i64 sp.code), .v (.int .i64 sp.mem), .v (.int .i64 sp.stack), .v (.int .i64 sp.val), .sl false 1 (zK sp.ws)], .v (.int .i64 (o : Int)), .sl false 3 (zc l), .v undef, .v undef, .v undef, .v undef, .v undef, .v undef, .v undef, .v undef, .v undef, .v undef, .v undef, .v undef, .v undef, .v undef, .v undef, .v undef, .v undef, .v undef, .v undef, .v undef, .v undef, .v undef, .v undef, .v undef, .v undef, .v undef, .v undef, .v undef, .v undef], []⟩ rfl ?_
 repeat' first | (with_reducible first | refine zA ?_ | refine zB ?_ | refine zG ?_) | ((with_reducible refine zC fun KC J hJ hKC => ?_); simp (maxSteps := 9999999) only [push_cast, seval, ↓reduceIte]) | ((with_reducible refine hJ _ _ ?_); clear hJ hKC KC J)
 refine zi 3 (γ := {p : Nat × Option Nat // p.1 ≤ l.length ∧ (p.2 = none → (l.take p.1).flatMap (vSL sp us o) = []) ∧ ∀ g, p.2 = some g → (l.take p.1).flatMap (vSL sp us o) ≠ []}) (fun p => ⟨[.any, .any, .v (.int .i64 (o : Int)), .any, .ptr 0 0 0, .ptr 1 0 0, .any, .any, .any, oE 2 ((l.take p.1.1).flatMap (vSL sp us o)) p.1.2, .any, .any, .any, .sl false 3 (zc l), .v (.int .i64 l.length), .v (.int .i64 p.1.1), .any, .any, .any, .any, .any, .any, .any, .any, .any, .any, .any, .any, .any, .any, .any, .any, .any], [.ent ⟨0, none, 25, [.sl f 1 (zM ns), .sl g 1 (zL us)], .cells⟩, .ent ⟨0, none, 28, [.v (.int .i64 sp.code), .v (.int .i64 sp.mem), .v (.int .i64 sp.stack), .v (.int .i64 sp.val), .sl false 1 (zK sp.ws)], .cells⟩, oS ((l.take p.1.1).flatMap (vSL sp us o)) p.1.2]⟩) (fun p => l.length - p.1.1) ⟨(0, none), by omega, (fun _ => rfl), fun g h => by cases h⟩ (fun p => rfl) (fun p => ?_) (fun p => ?_) ⟨?_, ?_⟩ ?_
 ·refine zr ?_
  simp only [List.map_cons, List.map_nil, zHn]
  rfl
 ·obtain ⟨⟨i, og⟩, hp⟩ := p
  cases og <;> rfl
 ·simp only [oE]
  exact Lq
 ·simp only [oS]
  exact Fq
 rintro ⟨⟨i, og⟩, hi, hno, hns⟩
 dsimp only at hi hno hns ⊢
 by_cases hlt : (i : Int) < (l.length : Int)
 ·have hx : l[i]? = some l[i] := List.getElem?_eq_getElem (by omega)
  obtain ⟨x, hx0⟩ : ∃ x, l[i] = x := ⟨_, rfl⟩
  rw [hx0] at hx
  have hst : (l.take (i + 1)).flatMap (vSL sp us o) = (l.take i).flatMap (vSL sp us o) ++ vSL sp us o x := zBW hx
  have hwn := zb (i := i) (n := l.length) (by omega) (by omega)
  have hLl : ((l.take i).flatMap (vSL sp us o)).length ≤ 300 := by
   have hb := zAG (zDw sp us o) (l.take i)
   rw [List.length_take] at hb
   omega
  have hlab := hL x (List.mem_of_getElem? hx)
  have hge := zAJ hx
  obtain ⟨r, v, c⟩ := x
  simp only at hge hlab
  obtain ⟨c, rfl, hc⟩ := zAP hlab
  have h1 := zz f g ns us o c hu hc ho
  have h2 := zEU false sp (r, v, (c : Int))
  obtain ⟨b, hb⟩ : ∃ b, fl us c o = b := ⟨_, rfl⟩
  have hh : hid us o (c : Int) = !b := by unfold hid; rw [Int.toNat_natCast, hb]
  rw [hb] at h1
  obtain ⟨L, hLL⟩ : ∃ L, (l.take i).flatMap (vSL sp us o) = L := ⟨_, rfl⟩
  rw [hLL] at hno hns hst hLl ⊢
  simp only [spF] at h2
  cases b
  case true =>
   rw [show vSL sp us o (r, v, (c : Int)) = [] by unfold vSL; rw [if_neg (by rw [hh]; simp)], List.append_nil] at hst
   repeat' first | (with_reducible first | refine zA ?_ | refine zB ?_ | refine zO ?_ | refine zJ ?_ | refine zG ?_) | ((with_reducible refine And.intro ?_ ?_); · exact Sq) | ((first | with_reducible refine zC fun KC J hJ hKC => ?_ | (refine hKC _ _ _ _ _ (zD (h1) rfl rfl rfl ?_ ?_); (· exact Lq))); simp (maxSteps := 9999999) only [push_cast, seval, ↓reduceIte, hlt, hge, hwn]) | ((with_reducible refine hJ _ _ ?_); clear hJ hKC KC J) | ((with_reducible refine zF ?_ ?_); · rfl) | ((with_reducible refine zH ?_ ?_); · rfl)
   refine ⟨⟨(i + 1, og), by simp only; omega, (fun h => by rw [hst]; exact hno h), fun g h => by rw [hst]; exact hns g h⟩, by simp only; omega, ?_, ?_⟩
   ·simp only [hst]
    exact Lq
   ·simp only [hst]
    exact ⟨_, rfl⟩
  case false =>
   rw [show vSL sp us o (r, v, (c : Int)) = [zCl sp (r, v, (c : Int))] by unfold vSL; rw [if_pos (by rw [hh]; rfl)]] at hst
   obtain ⟨w, hw⟩ : ∃ w, zCl sp (r, v, (c : Int)) = w := ⟨_, rfl⟩
   rw [hw] at hst h2
   rcases og with _ | gg
   ·have hL0 := hno rfl
    rw [hL0, zBr, zBq, zAW]
    rw [hL0, List.nil_append] at hst
    repeat' first | (refine zCD 7 7 2 rfl rfl ?_; simp (maxSteps := 9999999) only [push_cast, seval, ↓reduceIte, zBG, mvK, zT, ren, ren2, ren1, ren0, hlt, hge, hwn]) | (with_reducible first | refine zA ?_ | refine zB ?_ | refine zJ ?_ | refine zG ?_) | ((with_reducible refine And.intro ?_ ?_); · exact Sq) | ((first | with_reducible refine zC fun KC J hJ hKC => ?_ | (refine hKC _ _ _ _ _ (zD (h1) rfl rfl rfl ?_ ?_); (· exact Lq)) | (refine hKC _ _ _ _ _ (zD (h2) rfl rfl rfl ?_ ?_); (· exact Lq))); simp (maxSteps := 9999999) only [push_cast, seval, ↓reduceIte, hlt, hge, hwn]) | ((with_reducible refine hJ _ _ ?_); clear hJ hKC KC J) | ((with_reducible refine zF ?_ ?_); · rfl)
    refine ⟨⟨(i + 1, some 0), by simp only; omega, (fun h => by cases h), fun g h => by rw [hst]; simp⟩, by simp only; omega, ?_, ?_⟩
    ·simp only [hst, oE, List.length_cons, List.length_nil]
     exact Lq
    ·simp only [hst]
     exact ⟨_, rfl⟩
   ·rw [zBu, zBv]
    have hbq : Nat.beq gg gg = true := Nat.beq_refl gg
    have hlC : (zY L).length = L.length := zZ L
    have htk := zAM (L := L) rfl
    repeat' first | (with_reducible first | refine zA ?_ | refine zB ?_ | refine zO ?_ | refine zJ ?_ | refine zG ?_) | ((with_reducible refine And.intro ?_ ?_); · exact Sq) | ((first | with_reducible refine zC fun KC J hJ hKC => ?_ | (refine hKC _ _ _ _ _ (zD (h1) rfl rfl rfl ?_ ?_); (· exact Lq)) | (refine hKC _ _ _ _ _ (zD (h2) rfl rfl rfl ?_ ?_); (· exact Lq))); simp (maxSteps := 9999999) only [push_cast, seval, ↓reduceIte, hlt, hge, hwn, hbq, hlC, htk, Nat.mul_one]) | ((with_reducible refine hJ _ _ ?_); clear hJ hKC KC J) | ((with_reducible refine zF ?_ ?_); · rfl)
    refine ⟨⟨(i + 1, some (gg + 1)), by simp only; omega, (fun h => by cases h), fun g h => by rw [hst]; simp⟩, by simp only; omega, ?_, ?_⟩
    ·simp only [hst, oE, List.length_append, List.length_cons, List.length_nil]
     exact Lq
    ·simp only [hst, oS, zAB]
     exact ⟨_, rfl⟩
 have hin : i = l.length := by omega
 have hend : (l.take i).flatMap (vSL sp us o) = l.flatMap (vSL sp us o) := by rw [hin, List.take_length]
 rw [hend] at hno hns ⊢
 obtain ⟨L, hL⟩ : ∃ L, l.flatMap (vSL sp us o) = L := ⟨_, rfl⟩
 rw [hL] at hno hns ⊢
 rcases og with _ | gg
 ·rw [hno rfl, zBr, zBq, zAW]
  repeat' first | (with_reducible first | refine zA ?_ | refine zB ?_ | refine zX ?_ | refine zW ?_ | refine zI ?_ | refine zQ ?_) | ((with_reducible refine zC fun KC J hJ hKC => ?_); simp (maxSteps := 9999999) only [push_cast, seval, ↓reduceIte, hlt]) | ((with_reducible refine hJ _ _ ?_); clear hJ hKC KC J) | ((with_reducible refine zH ?_ ?_); · rfl)
  refine zE ?_
  simp (maxSteps := 9999999) only [push_cast, seval, ↓reduceIte, show Tryz.f88.results = #[(.tmp 8)] from rfl]
  rw [show emD [] = .sl true 1 [] from rfl]
  exact Lq
 ·rw [zBu, zBv]
  have hbq : Nat.beq gg gg = true := Nat.beq_refl gg
  have hlC : (zY L).length = L.length := zZ L
  have hcp : zBF 1 L.length (zY L) = zK L := zBn L
  repeat' first | (with_reducible first | refine zA ?_ | refine zB ?_ | refine zX ?_ | refine zW ?_ | refine zQ ?_) | ((with_reducible refine zC fun KC J hJ hKC => ?_); simp (maxSteps := 9999999) only [push_cast, seval, ↓reduceIte, hlt]) | ((with_reducible refine hJ _ _ ?_); clear hJ hKC KC J) | ((with_reducible refine zH ?_ ?_); · rfl)
  refine zt 2 rfl (by simp (maxSteps := 9999999) only [push_cast, seval, ↓reduceIte]) ?_
  simp (maxSteps := 9999999) only [push_cast, seval, ↓reduceIte, zAH, zd, fr3, fr2, fr1, fr0, zl, zj, hbq, hlC, hcp, Nat.mul_one]
  refine zI ?_
  refine zE ?_
  simp (maxSteps := 9999999) only [push_cast, seval, ↓reduceIte, show Tryz.f88.results = #[(.tmp 8)] from rfl]
  rw [show emD L = .sl false 1 (zK L) from if_neg (hns gg rfl)]
  exact Lq
section
variable {P : Program} {ro : Option Nat} {st : St} {K : Exit → St → Prop} {ops : Array Oper} {dr : Bool} {c c2 : Code}
theorem zFY {id : Nat} (t : St) (h1 : AWP P ro (.region id ops dr) st (fun e s => e = .normal ∧ leF s.fr t.fr ∧ leS s.σ t.σ)) (h2 : AWP P ro c2 t K) : zLr (AWP P ro (.seq (.region id ops dr) c2) st K) := by
 unfold zLr
 refine zA (h1.mono fun e s hs => ?_)
 obtain ⟨rfl, h3, h4⟩ := hs
 exact fun B a w hr Q hQ => h2 B a w (hr.le h3 h4) Q hQ
end
def pre {α : Type} (A : List Int) (l : List α) (f : α → List Int) (i : Nat) : List Int := A ++ (l.take i).flatMap f
theorem zAj {α : Type} (A : List Int) (l : List α) (f : α → List Int) : pre A l f 0 = A := by simp [pre]
theorem zDZ {α : Type} {A : List Int} {l : List α} {f : α → List Int} {i : Nat} {x : α} (h : l[i]? = some x) : pre A l f (i + 1) = pre A l f i ++ f x := by
 unfold pre; rw [zBW h, List.append_assoc]
theorem zDF {α : Type} {A : List Int} {l : List α} {f : α → List Int} {i : Nat} (h : i = l.length) : pre A l f i = A ++ l.flatMap f := by
 unfold pre; rw [h, List.take_length]
theorem zBo {α : Type} {f : α → List Int} (h : ∀ x, (f x).length ≤ 3) (A : List Int) (l : List α) (i : Nat) : (pre A l f i).length ≤ A.length + 3 * l.length := by
 have hb := zAG h (l.take i)
 rw [List.length_take] at hb
 unfold pre
 rw [List.length_append]
 omega
def oG : Option Nat → Nat
 | none => 0
 | some g => g + 1
theorem zMx (a : Int) (l : List Int) : zY (a :: l) = .v (.int .i64 a) :: zY l := rfl
theorem zJu : zY [] = [] := rfl
theorem zLM (sp : Sp) (s : Sta) (hw : sp.ws.length ≤ 1000) (h1 : s.code.length ≤ 50) (h2 : s.mem.length ≤ 50) (h3 : s.stack.length ≤ 50) :
  Fn Tryz.prog 39 [.agg (spF false sp), .agg (zAN false false false false s)] [] (.sl false 1 (zK (zBY sp s))) [] := by
 have hfin : zBY sp s = (((([(s.code.length : Int)] ++ s.code.flatMap (zAz sp)) ++ [(s.mem.length : Int)]) ++ s.mem.flatMap (zBb sp) ++ [(s.stack.length : Int)]) ++ s.stack.flatMap (zBc sp)) ++ [s.v, s.l] := by
  simp [zBY]
 rw [hfin]
 simp only [zAN, spF]
 refine Fn.of (fn := Tryz.f39) (by kernel_rfl) rfl (by kernel_rfl) ⟨[.agg [.v (.int .i64 sp.code), .v (.int .i64 sp.mem), .v (.int .i64 sp.stack), .v (.int .i64 sp.val), .sl false 1 (zK sp.ws)], .agg [.v (.int .i64 s.v), .v (.int .i64 s.l), .sl false 3 (zh s.code), .sl false 2 (zR s.mem), .sl false 3 (zc s.stack), .sl false 2 (zR s.out)], .v undef, .v undef, .v undef, .v undef, .v undef, .v undef, .v undef, .v undef, .v undef, .v undef, .v undef, .v undef, .v undef, .v undef, .v undef, .v undef, .v undef, .v undef, .v undef, .v undef, .v undef, .v undef, .v undef, .v undef, .v undef, .v undef, .v undef, .v undef, .v undef, .v undef, .v undef, .v undef, .v undef, .v undef, .v undef, .v undef, .v undef, .v undef, .v undef, .v undef, .v undef, .v undef, .v undef, .v undef, .v undef, .v undef, .v undef, .v undef, .v undef, .v undef, .v undef, .v undef, .v undef, .v undef, .v undef, .v undef, .v undef, .v undef, .v undef, .v undef, .v undef, .v undef, .v undef, .v undef, .v undef, .v undef, .v undef, .v undef, .v undef, .v undef, .v undef, .v undef, .v undef, .v undef, .v undef, .v undef, .v undef, .v undef, .v undef, .v undef, .v undef, .v undef, .v undef, .v undef, .v undef, .v undef, .v undef, .v undef, .v undef, .v undef, .v undef, .v undef, .v undef, .v undef, .v undef, .v undef, .v undef, .v undef, .v undef, .v undef, .v undef, .v undef, .v undef, .v undef, .v undef, .v undef, .v undef, .v undef, .v undef, .v undef, .v undef, .v undef, .v undef], []⟩ rfl ?_
 repeat' first | (with_reducible first | refine zA ?_ | refine zB ?_ | refine zG ?_) | ((with_reducible refine zC fun KC J hJ hKC => ?_); simp (maxSteps := 9999999) only [push_cast, seval, ↓reduceIte]) | ((with_reducible refine hJ _ _ ?_); clear hJ hKC KC J)
 refine zi 3 (γ := {p : Nat × Option Nat // p.1 ≤ s.code.length ∧ (p.2 = none → p.1 = 0)}) (fun p => ⟨[.any, .any, .ptr 0 0 0, .ptr 1 0 0, .any, oE 2 (pre [(s.code.length : Int)] s.code (zAz sp) p.1.1) p.1.2, .any, .any, .any, .any, .any, .any, .any, .any, .any, .any, .any, .sl false 3 (zh s.code), .v (.int .i64 s.code.length), .v (.int .i64 p.1.1), .any, .any, .any, .any, .any, .any, .any, .any, .any, .any, .any, .any, .any, .any, .any, .any, .any, .any, .any, .any, .any, .any, .any, .any, .any, .any, .any, .any, .any, .any, .any, .any, .any, .any, .any, .any, .any, .any, .any, .any, .any, .any, .any, .any, .any, .any, .any, .any, .any, .any, .any, .any, .any, .any, .any, .any, .any, .any, .any, .any, .any, .any, .any, .any, .any, .any, .any, .any, .any, .any, .any, .any, .any, .any, .any, .any, .any, .any, .any, .any, .any, .any, .any, .any, .any, .any, .any, .any, .any, .any, .any, .any, .any, .any, .any], [.ent ⟨0, none, 28, [.v (.int .i64 sp.code), .v (.int .i64 sp.mem), .v (.int .i64 sp.stack), .v (.int .i64 sp.val), .sl false 1 (zK sp.ws)], .cells⟩, .ent ⟨0, none, 39, [.v (.int .i64 s.v), .v (.int .i64 s.l), .sl false 3 (zh s.code), .sl false 2 (zR s.mem), .sl false 3 (zc s.stack), .sl false 2 (zR s.out)], .cells⟩, oS (pre [(s.code.length : Int)] s.code (zAz sp) p.1.1) p.1.2]⟩) (fun p => s.code.length - p.1.1) ⟨(0, none), by omega, (fun _ => rfl)⟩ (fun p => rfl) (fun p => ?_) (fun p => ?_) ⟨?_, ?_⟩ ?_
 ·refine zr ?_
  simp only [List.map_cons, List.map_nil, zHn]
  rfl
 ·obtain ⟨⟨i, og⟩, hp⟩ := p
  cases og <;> rfl
 ·simp only [oE, zAj, show zK [(s.code.length : Int)] = [[.v (.int .i64 (s.code.length : Int))]] from rfl]
  exact Lq
 ·simp only [oS]
  exact Fq
 rintro ⟨⟨i, og⟩, hi, hno⟩
 dsimp only at hi hno ⊢
 by_cases hlt : (i : Int) < (s.code.length : Int)
 ·have hx : s.code[i]? = some s.code[i] := List.getElem?_eq_getElem (by omega)
  obtain ⟨x, hx0⟩ : ∃ x, s.code[i] = x := ⟨_, rfl⟩
  rw [hx0] at hx
  have hst : pre [(s.code.length : Int)] s.code (zAz sp) (i + 1) = (pre [(s.code.length : Int)] s.code (zAz sp) i) ++ zAz sp x := zDZ hx
  have hwn := zb (i := i) (n := s.code.length) (by omega) (by omega)
  have hLl : (pre [(s.code.length : Int)] s.code (zAz sp) i).length ≤ 300 := by
   have hb := zBo (zGD sp) [(s.code.length : Int)] s.code i
   rw [List.length_singleton] at hb
   omega
  have hge := zAp hx
  obtain ⟨c, v, a⟩ := x
  simp only at hge
  have hlw := zOg false sp.ws c (by omega)
  rw [show (zCx sp.ws c).1 = opU sp c from rfl] at hlw
  have hnu := zCH false sp v
  obtain ⟨p, hp⟩ : ∃ p, opU sp c = p := ⟨_, rfl⟩
  obtain ⟨u, hu⟩ : ∃ u, zCN sp v = u := ⟨_, rfl⟩
  rw [hp] at hlw
  rw [hu] at hnu
  simp only [spF] at hnu
  rcases og with _ | gg
  ·have hi0 : i = 0 := hno rfl
   have hC0 : pre [(s.code.length : Int)] s.code (zAz sp) i = [(s.code.length : Int)] := by rw [hi0]; exact zAj _ _ _
   rw [hC0] at hst ⊢
   rw [zBr, zBq, show zK [(s.code.length : Int)] = [[.v (.int .i64 (s.code.length : Int))]] from rfl]
   by_cases e1 : c = 1
   ·subst e1
    rw [show zAz sp (1, v, a) = [p, u, a] by rw [← hp, ← hu]; rfl] at hst
    repeat' first | (refine zCD 6 6 2 rfl rfl ?_; simp (maxSteps := 9999999) only [push_cast, seval, ↓reduceIte, zBG, mvK, zT, ren, ren2, ren1, ren0, hlt, hge, hwn, beq_self_eq_true, undef, Nat.beq_refl]) | (with_reducible first | refine zA ?_ | refine zB ?_ | refine zO ?_ | refine zJ ?_ | refine zG ?_) | ((with_reducible refine And.intro ?_ ?_); · exact Sq) | ((first | with_reducible refine zC fun KC J hJ hKC => ?_ | with_reducible refine zU rfl fun KC J hJ hKC => ?_ | (refine hKC _ _ _ _ _ (zD (hlw) rfl rfl rfl ?_ ?_); (· exact Lq)) | (refine hKC _ _ _ _ _ (zD (hnu) rfl rfl rfl ?_ ?_); (· exact Lq))); simp (maxSteps := 9999999) only [push_cast, seval, ↓reduceIte, hlt, hge, hwn, beq_self_eq_true, undef, Nat.beq_refl]) | ((first | with_reducible refine hJ _ _ ?_ | (with_reducible refine hJ _ _ ?_ ?_; · kernel_rfl)); clear hJ hKC KC J) | ((with_reducible refine zF ?_ ?_); · rfl) | ((with_reducible refine zH ?_ ?_); · rfl)
    refine ⟨⟨(i + 1, some 1), by simp only; omega, (fun h => by cases h)⟩, by simp only; omega, ?_, ?_⟩
    ·simp only [hst, oE, List.length_append, List.length_cons, List.length_nil]
     exact Lq
    ·simp only [hst]
     exact ⟨_, rfl⟩
   have e1' : (c == 1) = false := by simpa using e1
   by_cases e8 : 8 ≤ c
   ·have e8' : decide (8 ≤ c) = true := decide_eq_true e8
    by_cases e10 : c ≤ 10
    ·have e10' : decide (c ≤ 10) = true := decide_eq_true e10
     rw [show zAz sp (c, v, a) = [p, v] by unfold zAz; rw [if_neg e1, if_pos (show c = 8 ∨ c = 9 ∨ c = 10 by omega), hp]] at hst
     repeat' first | (refine zCD 6 6 2 rfl rfl ?_; simp (maxSteps := 9999999) only [push_cast, seval, ↓reduceIte, zBG, mvK, zT, ren, ren2, ren1, ren0, hlt, hge, hwn, e1', e8, e8', e10, e10', ge_iff_le, beq_self_eq_true, undef, Nat.beq_refl]) | (with_reducible first | refine zA ?_ | refine zB ?_ | refine zO ?_ | refine zJ ?_ | refine zG ?_) | ((with_reducible refine And.intro ?_ ?_); · exact Sq) | ((first | with_reducible refine zC fun KC J hJ hKC => ?_ | (refine hKC _ _ _ _ _ (zD (hlw) rfl rfl rfl ?_ ?_); (· exact Lq))); simp (maxSteps := 9999999) only [push_cast, seval, ↓reduceIte, hlt, hge, hwn, e1', e8, e8', e10, e10', ge_iff_le, beq_self_eq_true, undef, Nat.beq_refl]) | ((with_reducible refine hJ _ _ ?_); clear hJ hKC KC J) | ((with_reducible refine zF ?_ ?_); · rfl) | ((with_reducible refine zH ?_ ?_); · rfl)
     refine ⟨⟨(i + 1, some 1), by simp only; omega, (fun h => by cases h)⟩, by simp only; omega, ?_, ?_⟩
     ·simp only [hst, oE, List.length_append, List.length_cons, List.length_nil]
      exact Lq
     ·simp only [hst]
      exact ⟨_, rfl⟩
    ·have e10' : decide (c ≤ 10) = false := decide_eq_false e10
     rw [show zAz sp (c, v, a) = [p] by unfold zAz; rw [if_neg e1, if_neg (show ¬ (c = 8 ∨ c = 9 ∨ c = 10) by omega), hp]] at hst
     repeat' first | (refine zCD 6 6 2 rfl rfl ?_; simp (maxSteps := 9999999) only [push_cast, seval, ↓reduceIte, zBG, mvK, zT, ren, ren2, ren1, ren0, hlt, hge, hwn, e1', e8, e8', e10, e10', ge_iff_le, beq_self_eq_true, undef, Nat.beq_refl]) | (with_reducible first | refine zA ?_ | refine zB ?_ | refine zO ?_ | refine zJ ?_ | refine zG ?_) | ((with_reducible refine And.intro ?_ ?_); · exact Sq) | ((first | with_reducible refine zC fun KC J hJ hKC => ?_ | (refine hKC _ _ _ _ _ (zD (hlw) rfl rfl rfl ?_ ?_); (· exact Lq))); simp (maxSteps := 9999999) only [push_cast, seval, ↓reduceIte, hlt, hge, hwn, e1', e8, e8', e10, e10', ge_iff_le, beq_self_eq_true, undef, Nat.beq_refl]) | ((with_reducible refine hJ _ _ ?_); clear hJ hKC KC J) | ((with_reducible refine zF ?_ ?_); · rfl) | ((with_reducible refine zH ?_ ?_); · rfl)
     refine ⟨⟨(i + 1, some 0), by simp only; omega, (fun h => by cases h)⟩, by simp only; omega, ?_, ?_⟩
     ·simp only [hst, oE, List.length_append, List.length_cons, List.length_nil]
      exact Lq
     ·simp only [hst]
      exact ⟨_, rfl⟩
   ·have e8' : decide (8 ≤ c) = false := decide_eq_false e8
    rw [show zAz sp (c, v, a) = [p] by unfold zAz; rw [if_neg e1, if_neg (show ¬ (c = 8 ∨ c = 9 ∨ c = 10) by omega), hp]] at hst
    repeat' first | (refine zCD 6 6 2 rfl rfl ?_; simp (maxSteps := 9999999) only [push_cast, seval, ↓reduceIte, zBG, mvK, zT, ren, ren2, ren1, ren0, hlt, hge, hwn, e1', e8, e8', ge_iff_le, beq_self_eq_true, undef, Nat.beq_refl]) | (with_reducible first | refine zA ?_ | refine zB ?_ | refine zO ?_ | refine zJ ?_ | refine zG ?_) | ((with_reducible refine And.intro ?_ ?_); · exact Sq) | ((first | with_reducible refine zC fun KC J hJ hKC => ?_ | (refine hKC _ _ _ _ _ (zD (hlw) rfl rfl rfl ?_ ?_); (· exact Lq))); simp (maxSteps := 9999999) only [push_cast, seval, ↓reduceIte, hlt, hge, hwn, e1', e8, e8', ge_iff_le, beq_self_eq_true, undef, Nat.beq_refl]) | ((with_reducible refine hJ _ _ ?_); clear hJ hKC KC J) | ((with_reducible refine zF ?_ ?_); · rfl) | ((with_reducible refine zH ?_ ?_); · rfl)
    refine ⟨⟨(i + 1, some 0), by simp only; omega, (fun h => by cases h)⟩, by simp only; omega, ?_, ?_⟩
    ·simp only [hst, oE, List.length_append, List.length_cons, List.length_nil]
     exact Lq
    ·simp only [hst]
     exact ⟨_, rfl⟩
  ·obtain ⟨L, hL⟩ : ∃ L, pre [(s.code.length : Int)] s.code (zAz sp) i = L := ⟨_, rfl⟩
   rw [hL] at hst hLl ⊢
   rw [zBu, zBv]
   have hbq : Nat.beq gg gg = true := Nat.beq_refl gg
   have hbq2 : Nat.beq (gg + 1) (gg + 1) = true := Nat.beq_refl _
   have hlC : (zY L).length = L.length := zZ L
   have htk := zAM (L := L) rfl
   have htk2 : ∀ d : D, (zY L ++ [d]).take (L.length + 1) = zY L ++ [d] := fun d => List.take_of_length_le (by simp [hlC])
   by_cases e1 : c = 1
   ·subst e1
    rw [show zAz sp (1, v, a) = [p, u, a] by rw [← hp, ← hu]; rfl] at hst
    repeat' first | (with_reducible first | refine zA ?_ | refine zB ?_ | refine zO ?_ | refine zJ ?_ | refine zG ?_) | ((with_reducible refine And.intro ?_ ?_); · exact Sq) | ((first | with_reducible refine zC fun KC J hJ hKC => ?_ | with_reducible refine zU rfl fun KC J hJ hKC => ?_ | (refine hKC _ _ _ _ _ (zD (hlw) rfl rfl rfl ?_ ?_); (· exact Lq)) | (refine hKC _ _ _ _ _ (zD (hnu) rfl rfl rfl ?_ ?_); (· exact Lq))); simp (maxSteps := 9999999) only [push_cast, seval, ↓reduceIte, hlt, hge, hwn, hbq, hbq2, hlC, htk, htk2, Nat.mul_one, beq_self_eq_true, undef]) | ((first | with_reducible refine hJ _ _ ?_ | (with_reducible refine hJ _ _ ?_ ?_; · kernel_rfl)); clear hJ hKC KC J) | ((with_reducible refine zF ?_ ?_); · rfl) | ((with_reducible refine zH ?_ ?_); · rfl)
    refine ⟨⟨(i + 1, some (gg + 1 + 1)), by simp only; omega, (fun h => by cases h)⟩, by simp only; omega, ?_, ?_⟩
    ·simp only [hst, oE, List.length_append, List.length_cons, List.length_nil]
     exact Lq
    ·simp only [hst, oS, zAB, List.append_assoc, List.cons_append, List.nil_append]
     exact ⟨_, rfl⟩
   have e1' : (c == 1) = false := by simpa using e1
   by_cases e8 : 8 ≤ c
   ·have e8' : decide (8 ≤ c) = true := decide_eq_true e8
    by_cases e10 : c ≤ 10
    ·have e10' : decide (c ≤ 10) = true := decide_eq_true e10
     rw [show zAz sp (c, v, a) = [p, v] by unfold zAz; rw [if_neg e1, if_pos (show c = 8 ∨ c = 9 ∨ c = 10 by omega), hp]] at hst
     repeat' first | (with_reducible first | refine zA ?_ | refine zB ?_ | refine zO ?_ | refine zJ ?_ | refine zG ?_) | ((with_reducible refine And.intro ?_ ?_); · exact Sq) | ((first | with_reducible refine zC fun KC J hJ hKC => ?_ | (refine hKC _ _ _ _ _ (zD (hlw) rfl rfl rfl ?_ ?_); (· exact Lq))); simp (maxSteps := 9999999) only [push_cast, seval, ↓reduceIte, hlt, hge, hwn, hbq, hbq2, hlC, htk, htk2, Nat.mul_one, e1', e8, e8', e10, e10', ge_iff_le, beq_self_eq_true, undef]) | ((with_reducible refine hJ _ _ ?_); clear hJ hKC KC J) | ((with_reducible refine zF ?_ ?_); · rfl) | ((with_reducible refine zH ?_ ?_); · rfl)
     refine ⟨⟨(i + 1, some (gg + 1 + 1)), by simp only; omega, (fun h => by cases h)⟩, by simp only; omega, ?_, ?_⟩
     ·simp only [hst, oE, List.length_append, List.length_cons, List.length_nil]
      exact Lq
     ·simp only [hst, oS, zAB, List.append_assoc, List.cons_append, List.nil_append]
      exact ⟨_, rfl⟩
    ·have e10' : decide (c ≤ 10) = false := decide_eq_false e10
     rw [show zAz sp (c, v, a) = [p] by unfold zAz; rw [if_neg e1, if_neg (show ¬ (c = 8 ∨ c = 9 ∨ c = 10) by omega), hp]] at hst
     repeat' first | (with_reducible first | refine zA ?_ | refine zB ?_ | refine zO ?_ | refine zJ ?_ | refine zG ?_) | ((with_reducible refine And.intro ?_ ?_); · exact Sq) | ((first | with_reducible refine zC fun KC J hJ hKC => ?_ | (refine hKC _ _ _ _ _ (zD (hlw) rfl rfl rfl ?_ ?_); (· exact Lq))); simp (maxSteps := 9999999) only [push_cast, seval, ↓reduceIte, hlt, hge, hwn, hbq, hbq2, hlC, htk, htk2, Nat.mul_one, e1', e8, e8', e10, e10', ge_iff_le, beq_self_eq_true, undef]) | ((with_reducible refine hJ _ _ ?_); clear hJ hKC KC J) | ((with_reducible refine zF ?_ ?_); · rfl) | ((with_reducible refine zH ?_ ?_); · rfl)
     refine ⟨⟨(i + 1, some (gg + 1)), by simp only; omega, (fun h => by cases h)⟩, by simp only; omega, ?_, ?_⟩
     ·simp only [hst, oE, List.length_append, List.length_cons, List.length_nil]
      exact Lq
     ·simp only [hst, oS, zAB, List.append_assoc, List.cons_append, List.nil_append]
      exact ⟨_, rfl⟩
   ·have e8' : decide (8 ≤ c) = false := decide_eq_false e8
    rw [show zAz sp (c, v, a) = [p] by unfold zAz; rw [if_neg e1, if_neg (show ¬ (c = 8 ∨ c = 9 ∨ c = 10) by omega), hp]] at hst
    repeat' first | (with_reducible first | refine zA ?_ | refine zB ?_ | refine zO ?_ | refine zJ ?_ | refine zG ?_) | ((with_reducible refine And.intro ?_ ?_); · exact Sq) | ((first | with_reducible refine zC fun KC J hJ hKC => ?_ | (refine hKC _ _ _ _ _ (zD (hlw) rfl rfl rfl ?_ ?_); (· exact Lq))); simp (maxSteps := 9999999) only [push_cast, seval, ↓reduceIte, hlt, hge, hwn, hbq, hbq2, hlC, htk, htk2, Nat.mul_one, e1', e8, e8', ge_iff_le, beq_self_eq_true, undef]) | ((with_reducible refine hJ _ _ ?_); clear hJ hKC KC J) | ((with_reducible refine zF ?_ ?_); · rfl) | ((with_reducible refine zH ?_ ?_); · rfl)
    refine ⟨⟨(i + 1, some (gg + 1)), by simp only; omega, (fun h => by cases h)⟩, by simp only; omega, ?_, ?_⟩
    ·simp only [hst, oE, List.length_append, List.length_cons, List.length_nil]
     exact Lq
    ·simp only [hst, oS, zAB, List.append_assoc, List.cons_append, List.nil_append]
     exact ⟨_, rfl⟩
 have hin : i = s.code.length := by omega
 have hend : pre [(s.code.length : Int)] s.code (zAz sp) i = [(s.code.length : Int)] ++ s.code.flatMap (zAz sp) := zDF hin
 rw [hend]
 obtain ⟨A1, hA1⟩ : ∃ l, [(s.code.length : Int)] ++ s.code.flatMap (zAz sp) = l := ⟨_, rfl⟩
 have lA1 : A1.length ≤ 151 := by
  have hb := zBo (zGD sp) [(s.code.length : Int)] s.code i
  rw [hend, hA1, List.length_singleton] at hb
  omega
 have hz1 : og = none → A1 = [(s.code.length : Int)] := fun h => by
  rw [← hA1, ← hend, hno h]; exact zAj _ _ _
 rw [hA1]
 obtain ⟨A2, hA2⟩ : ∃ l, A1 ++ [(s.mem.length : Int)] = l := ⟨_, rfl⟩
 have lA2 : A2.length = A1.length + 1 := by rw [← hA2]; simp
 have cA2 : zY A2 = zY A1 ++ [.v (.int .i64 (s.mem.length : Int))] := by rw [← hA2, zAB]; rfl
 rw [hA2]
 repeat' first | (with_reducible refine zLZ 11 ?_) | (with_reducible first | refine zA ?_ | refine zB ?_ | refine zX ?_ | refine zW ?_ | refine zQ ?_) | ((with_reducible refine zC fun KC J hJ hKC => ?_); simp (maxSteps := 9999999) only [push_cast, seval, ↓reduceIte, hlt]) | ((with_reducible refine hJ _ _ ?_); clear hJ hKC KC J) | ((with_reducible refine zH ?_ ?_); · rfl)
 refine zFY ⟨[.any, .any, .ptr 0 0 0, .ptr 1 0 0, .any, .ref 2 (oG og) A2.length, .any, .any, .any, .any, .any, .any, .any, .any, .any, .any, .any, .any, .any, .any, .any, .any, .any, .any, .any, .any, .any, .any, .any, .any, .any, .any, .any, .any, .any, .any, .any, .any, .any, .any, .any, .any, .any, .any, .any, .any, .any, .any, .any, .any, .any, .any, .any, .any, .any, .any, .any, .any, .any, .any, .any, .any, .any, .any, .any, .any, .any, .any, .any, .any, .any, .any, .any, .any, .any, .any, .any, .any, .any, .any, .any, .any, .any, .any, .any, .any, .any, .any, .any, .any, .any, .any, .any, .any, .any, .any, .any, .any, .any, .any, .any, .any, .any, .any, .any, .any, .any, .any, .any, .any, .any, .any, .any, .any, .any], [.ent ⟨0, none, 28, [.v (.int .i64 sp.code), .v (.int .i64 sp.mem), .v (.int .i64 sp.stack), .v (.int .i64 sp.val), .sl false 1 (zK sp.ws)], .cells⟩, .ent ⟨0, none, 39, [.v (.int .i64 s.v), .v (.int .i64 s.l), .sl false 3 (zh s.code), .sl false 2 (zR s.mem), .sl false 3 (zc s.stack), .sl false 2 (zR s.out)], .cells⟩, .ent ⟨oG og, some 1, 3, zY A2, .cells⟩, .free, .dead]⟩ ?_ ?_
 ·rcases og with _ | gg
  ·rw [zBr, zBq, hz1 rfl, show zK [(s.code.length : Int)] = [[.v (.int .i64 (s.code.length : Int))]] from rfl]
   rw [hz1 rfl] at lA2 cA2
   refine zDG 4 2 ?_
   repeat' first | ((with_reducible refine zC fun KC J hJ hKC => ?_); simp (maxSteps := 9999999) only [push_cast, seval, ↓reduceIte]) | ((with_reducible refine hJ _ _ ?_); clear hJ hKC KC J)
   refine ⟨⟨_, rfl⟩, rfl, rfl, ?_, ?_⟩
   ·simp (maxSteps := 9999999) only [push_cast, seval, ↓reduceIte, zBG, mvK, ren, ren2, ren1, ren0, lA2, oG]
    exact Lq
   ·simp (maxSteps := 9999999) only [push_cast, seval, ↓reduceIte, zBG, mvK, zT, ren, ren2, ren1, ren0, cA2, oG, zMx, zJu]
    exact LSv
  ·rw [zBu, zBv]
   have hbq : Nat.beq gg gg = true := Nat.beq_refl gg
   have hlC : (zY A1).length = A1.length := zZ A1
   have htk := zAM (L := A1) rfl
   repeat' first | ((with_reducible refine And.intro ?_ ?_); · exact Sq) | ((with_reducible refine zC fun KC J hJ hKC => ?_); simp (maxSteps := 9999999) only [push_cast, seval, ↓reduceIte, hbq, hlC, htk, Nat.mul_one]) | ((with_reducible refine hJ _ _ ?_); clear hJ hKC KC J)
   refine ⟨?_, ?_⟩
   ·simp only [lA2, oG]
    exact Lq
   ·simp only [cA2, oG]
    exact LSv
 obtain ⟨G, hG⟩ : ∃ g, oG og = g := ⟨_, rfl⟩
 rw [hG]
 repeat' first | (with_reducible first | refine zA ?_ | refine zB ?_ | refine zG ?_) | ((with_reducible refine zC fun KC J hJ hKC => ?_); simp (maxSteps := 9999999) only [push_cast, seval, ↓reduceIte]) | ((with_reducible refine hJ _ _ ?_); clear hJ hKC KC J)
 refine zi 5 (γ := {p : Nat × Nat // p.1 ≤ s.mem.length}) (fun p => ⟨[.any, .any, .ptr 0 0 0, .ptr 1 0 0, .any, .ref 2 p.1.2 (pre A2 s.mem (zBb sp) p.1.1).length, .any, .any, .any, .any, .any, .any, .any, .any, .any, .any, .any, .any, .any, .any, .any, .any, .any, .any, .any, .any, .any, .any, .any, .any, .any, .any, .any, .any, .any, .any, .any, .any, .any, .any, .any, .any, .any, .any, .any, .any, .any, .any, .any, .any, .any, .any, .any, .any, .any, .any, .any, .any, .any, .any, .any, .any, .any, .any, .any, .sl false 2 (zR s.mem), .v (.int .i64 s.mem.length), .v (.int .i64 p.1.1), .any, .any, .any, .any, .any, .any, .any, .any, .any, .any, .any, .any, .any, .any, .any, .any, .any, .any, .any, .any, .any, .any, .any, .any, .any, .any, .any, .any, .any, .any, .any, .any, .any, .any, .any, .any, .any, .any, .any, .any, .any, .any, .any, .any, .any, .any, .any], [.ent ⟨0, none, 28, [.v (.int .i64 sp.code), .v (.int .i64 sp.mem), .v (.int .i64 sp.stack), .v (.int .i64 sp.val), .sl false 1 (zK sp.ws)], .cells⟩, .ent ⟨0, none, 39, [.v (.int .i64 s.v), .v (.int .i64 s.l), .sl false 3 (zh s.code), .sl false 2 (zR s.mem), .sl false 3 (zc s.stack), .sl false 2 (zR s.out)], .cells⟩, .ent ⟨p.1.2, some 1, 3, zY (pre A2 s.mem (zBb sp) p.1.1), .cells⟩, .free, .dead]⟩) (fun p => s.mem.length - p.1.1) ⟨(0, G), by omega⟩ (fun p => rfl) (fun p => ?_) (fun p => rfl) ⟨?_, ?_⟩ ?_
 ·refine zr ?_
  simp only [List.map_cons, List.map_nil, zx, zAL]
  rfl
 ·simp only [zAj]
  exact Lq
 ·simp only [zAj]
  exact Fq
 rintro ⟨⟨i, gg⟩, hi⟩
 dsimp only at hi ⊢
 by_cases hlt : (i : Int) < (s.mem.length : Int)
 ·have hx : s.mem[i]? = some s.mem[i] := List.getElem?_eq_getElem (by omega)
  obtain ⟨x, hx0⟩ : ∃ x, s.mem[i] = x := ⟨_, rfl⟩
  rw [hx0] at hx
  have hst : pre A2 s.mem (zBb sp) (i + 1) = (pre A2 s.mem (zBb sp) i) ++ zBb sp x := zDZ hx
  have hwn := zb (i := i) (n := s.mem.length) (by omega) (by omega)
  have hLl := zBo (zEK sp) A2 s.mem i
  have hge := zAK hx
  obtain ⟨v, a⟩ := x
  simp only at hge
  have hnu := zCH false sp v
  obtain ⟨u, hu⟩ : ∃ u, zCN sp v = u := ⟨_, rfl⟩
  rw [hu] at hnu
  simp only [spF] at hnu
  rw [show zBb sp (v, a) = [u, a] by rw [← hu]; rfl] at hst
  obtain ⟨L, hL⟩ : ∃ L, pre A2 s.mem (zBb sp) i = L := ⟨_, rfl⟩
  rw [hL] at hst hLl ⊢
  have hbq : Nat.beq gg gg = true := Nat.beq_refl gg
  have hlC : (zY L).length = L.length := zZ L
  have htk := zAM (L := L) rfl
  repeat' first | (with_reducible first | refine zA ?_ | refine zB ?_ | refine zO ?_ | refine zJ ?_ | refine zG ?_) | ((with_reducible refine And.intro ?_ ?_); · exact Sq) | ((first | with_reducible refine zC fun KC J hJ hKC => ?_ | with_reducible refine zU rfl fun KC J hJ hKC => ?_ | (refine hKC _ _ _ _ _ (zD (hnu) rfl rfl rfl ?_ ?_); (· exact Lq))); simp (maxSteps := 9999999) only [push_cast, seval, ↓reduceIte, hlt, hge, hwn, hbq, hlC, htk, Nat.mul_one]) | ((first | with_reducible refine hJ _ _ ?_ | (with_reducible refine hJ _ _ ?_ ?_; · kernel_rfl)); clear hJ hKC KC J) | ((with_reducible refine zF ?_ ?_); · rfl)
  refine ⟨⟨(i + 1, gg + 1), by simp only; omega⟩, by simp only; omega, ?_, ?_⟩
  ·simp only [hst, List.length_append, List.length_cons, List.length_nil]
   exact Lq
  ·simp only [hst, zAB]
   exact ⟨_, rfl⟩
 have hin : i = s.mem.length := by omega
 rw [zDF hin]
 obtain ⟨A40, hA40⟩ : ∃ l, A2 ++ s.mem.flatMap (zBb sp) = l := ⟨_, rfl⟩
 have lA40 : A40.length ≤ A2.length + 3 * s.mem.length := by
  have hb := zBo (zEK sp) A2 s.mem i
  rw [zDF hin, hA40] at hb
  exact hb
 rw [hA40]
 obtain ⟨A4, hA4⟩ : ∃ l, A40 ++ [(s.stack.length : Int)] = l := ⟨_, rfl⟩
 have lA4 : A4.length = A40.length + 1 := by rw [← hA4]; simp
 rw [hA4]
 have hbq : Nat.beq gg gg = true := Nat.beq_refl gg
 have hlC : (zY A40).length = A40.length := zZ A40
 have htk := zAM (L := A40) rfl
 have cA4 : zY A40 ++ [.v (.int .i64 (s.stack.length : Int))] = zY A4 := by rw [← hA4, zAB]; rfl
 repeat' first | (with_reducible first | refine zA ?_ | refine zB ?_ | refine zX ?_ | refine zW ?_ | refine zQ ?_ | refine zG ?_) | ((with_reducible refine And.intro ?_ ?_); · exact Sq) | ((with_reducible refine zC fun KC J hJ hKC => ?_); simp (maxSteps := 9999999) only [push_cast, seval, ↓reduceIte, hlt, Int.lt_irrefl, hbq, hlC, htk, Nat.mul_one, cA4, lA4.symm]) | ((with_reducible refine hJ _ _ ?_); clear hJ hKC KC J) | ((with_reducible refine zH ?_ ?_); · rfl)
 refine zi 5 (γ := {p : Nat × Nat // p.1 ≤ s.stack.length}) (fun p => ⟨[.any, .any, .ptr 0 0 0, .ptr 1 0 0, .any, .ref 2 p.1.2 (pre A4 s.stack (zBc sp) p.1.1).length, .any, .any, .any, .any, .any, .any, .any, .any, .any, .any, .any, .any, .any, .any, .any, .any, .any, .any, .any, .any, .any, .any, .any, .any, .any, .any, .any, .any, .any, .any, .any, .any, .any, .any, .any, .any, .any, .any, .any, .any, .any, .any, .any, .any, .any, .any, .any, .any, .any, .any, .any, .any, .any, .any, .any, .any, .any, .any, .any, .any, .any, .any, .any, .any, .any, .any, .any, .any, .any, .any, .any, .any, .any, .any, .any, .any, .any, .any, .any, .any, .any, .any, .sl false 3 (zc s.stack), .v (.int .i64 s.stack.length), .v (.int .i64 p.1.1), .any, .any, .any, .any, .any, .any, .any, .any, .any, .any, .any, .any, .any, .any, .any, .any, .any, .any, .any, .any, .any, .any, .any, .any], [.ent ⟨0, none, 28, [.v (.int .i64 sp.code), .v (.int .i64 sp.mem), .v (.int .i64 sp.stack), .v (.int .i64 sp.val), .sl false 1 (zK sp.ws)], .cells⟩, .ent ⟨0, none, 39, [.v (.int .i64 s.v), .v (.int .i64 s.l), .sl false 3 (zh s.code), .sl false 2 (zR s.mem), .sl false 3 (zc s.stack), .sl false 2 (zR s.out)], .cells⟩, .ent ⟨p.1.2, some 1, 3, zY (pre A4 s.stack (zBc sp) p.1.1), .cells⟩, .free, .dead]⟩) (fun p => s.stack.length - p.1.1) ⟨(0, (gg + 1)), by omega⟩ (fun p => rfl) (fun p => ?_) (fun p => rfl) ⟨?_, ?_⟩ ?_
 ·refine zr ?_
  simp only [List.map_cons, List.map_nil, zx, zAL]
  rfl
 ·simp only [zAj]
  exact Lq
 ·simp only [zAj]
  exact Fq
 rintro ⟨⟨i, gg⟩, hi⟩
 dsimp only at hi ⊢
 by_cases hlt : (i : Int) < (s.stack.length : Int)
 ·have hx : s.stack[i]? = some s.stack[i] := List.getElem?_eq_getElem (by omega)
  obtain ⟨x, hx0⟩ : ∃ x, s.stack[i] = x := ⟨_, rfl⟩
  rw [hx0] at hx
  have hst : pre A4 s.stack (zBc sp) (i + 1) = (pre A4 s.stack (zBc sp) i) ++ zBc sp x := zDZ hx
  have hwn := zb (i := i) (n := s.stack.length) (by omega) (by omega)
  have hLl := zBo (zET sp) A4 s.stack i
  have hge := zAJ hx
  obtain ⟨r, v, a⟩ := x
  simp only at hge
  have hva := zEU false sp (r, v, a)
  have hre := zJn (r, v, a)
  have hnu := hre
  obtain ⟨u, hu⟩ : ∃ u, zCl sp (r, v, a) = u := ⟨_, rfl⟩
  obtain ⟨w, hw⟩ : ∃ u, zFM (r, v, a) = u := ⟨_, rfl⟩
  rw [hu] at hva
  rw [hw] at hre hnu
  simp only [spF] at hva hre hnu
  rw [show zBc sp (r, v, a) = [w, u, a] by rw [← hu, ← hw]; rfl] at hst
  obtain ⟨L, hL⟩ : ∃ L, pre A4 s.stack (zBc sp) i = L := ⟨_, rfl⟩
  rw [hL] at hst hLl ⊢
  have hbq : Nat.beq gg gg = true := Nat.beq_refl gg
  have hlC : (zY L).length = L.length := zZ L
  have htk := zAM (L := L) rfl
  repeat' first | (with_reducible first | refine zA ?_ | refine zB ?_ | refine zO ?_ | refine zJ ?_ | refine zG ?_) | ((with_reducible refine And.intro ?_ ?_); · exact Sq) | ((first | with_reducible refine zC fun KC J hJ hKC => ?_ | with_reducible refine zU rfl fun KC J hJ hKC => ?_ | (refine hKC _ _ _ _ _ (zD (hnu) rfl rfl rfl ?_ ?_); (· exact Lq)) | (refine hKC _ _ _ _ _ (zD (hva) rfl rfl rfl ?_ ?_); (· exact Lq))); simp (maxSteps := 9999999) only [push_cast, seval, ↓reduceIte, hlt, hge, hwn, hbq, hlC, htk, Nat.mul_one]) | ((first | with_reducible refine hJ _ _ ?_ | (with_reducible refine hJ _ _ ?_ ?_; · kernel_rfl)); clear hJ hKC KC J) | ((with_reducible refine zF ?_ ?_); · rfl)
  refine ⟨⟨(i + 1, gg + 1), by simp only; omega⟩, by simp only; omega, ?_, ?_⟩
  ·simp only [hst, List.length_append, List.length_cons, List.length_nil]
   exact Lq
  ·simp only [hst, zAB]
   exact ⟨_, rfl⟩
 have hin : i = s.stack.length := by omega
 rw [zDF hin]
 obtain ⟨A60, hA60⟩ : ∃ l, A4 ++ s.stack.flatMap (zBc sp) = l := ⟨_, rfl⟩
 have lA60 : A60.length ≤ A4.length + 3 * s.stack.length := by
  have hb := zBo (zET sp) A4 s.stack i
  rw [zDF hin, hA60] at hb
  exact hb
 rw [hA60]
 obtain ⟨A6, hA6⟩ : ∃ l, A60 ++ [s.v, s.l] = l := ⟨_, rfl⟩
 have lA6 : A6.length = A60.length + 2 := by rw [← hA6]; simp
 rw [hA6]
 have hbq : Nat.beq gg gg = true := Nat.beq_refl gg
 have hlC : (zY A60).length = A60.length := zZ A60
 have htk := zAM (L := A60) rfl
 have cA6 : zY A60 ++ [.v (.int .i64 s.v), .v (.int .i64 s.l)] = zY A6 := by rw [← hA6, zAB]; rfl
 have hlC6 : (zY A6).length = A6.length := zZ A6
 have hcp : zBF 1 A6.length (zY A6) = zK A6 := zBn A6
 have hbq2 : Nat.beq (gg + 1) (gg + 1) = true := Nat.beq_refl _
 repeat' first | (with_reducible first | refine zA ?_ | refine zB ?_ | refine zX ?_ | refine zW ?_ | refine zQ ?_) | ((with_reducible refine And.intro ?_ ?_); · exact Sq) | ((with_reducible refine zC fun KC J hJ hKC => ?_); simp (maxSteps := 9999999) only [push_cast, seval, ↓reduceIte, hlt, Int.lt_irrefl, hbq, hlC, htk, Nat.mul_one, cA6, lA6.symm]) | ((with_reducible refine hJ _ _ ?_); clear hJ hKC KC J) | ((with_reducible refine zH ?_ ?_); · rfl)
 refine zt 2 rfl (by simp (maxSteps := 9999999) only [push_cast, seval, ↓reduceIte]) ?_
 simp (maxSteps := 9999999) only [push_cast, seval, ↓reduceIte, zAH, zd, fr3, fr2, fr1, fr0, zl, zj, hbq2, hlC6, hcp, Nat.mul_one]
 refine zI ?_
 refine zE ?_
 simp (maxSteps := 9999999) only [push_cast, seval, ↓reduceIte, show Tryz.f39.results = #[(.tmp 4)] from rfl]
 exact Lq
def oX (og : Option Nat) (H : List Int) : Option Nat := if H = [] then og else some (oG og)
theorem zOl (us : List Nat) (o : Nat) : List.Pairwise (fun a b : Int => a < b) (zBp us o) := by
 unfold zBp
 refine List.Pairwise.filter _ ?_
 rw [List.pairwise_map]
 exact (List.pairwise_lt_range (n := us.length)).imp fun h => by omega
theorem zLN {us : List Nat} {o : Nat} {l : Int} (h1 : zn us.length l = false) (h2 : hid us o l = true) {i : Nat} {x : Int} (hx : (zBp us o)[i]? = some x) : x = l ↔ i = zDR us o l := by
 obtain ⟨k1, k2⟩ := zJe h1 h2
 have hN : zDR us o l < (zBp us o).length := by omega
 obtain ⟨hi, rfl⟩ := List.getElem?_eq_some_iff.1 hx
 rw [List.getD_eq_getElem?_getD, List.getElem?_eq_getElem hN, Option.getD_some] at k2
 have hp := List.pairwise_iff_getElem.1 (zOl us o)
 constructor
 ·intro h
  rcases Nat.lt_trichotomy i (zDR us o l) with h3 | h3 | h3
  ·have := hp _ _ hi hN h3; omega
  ·exact h3
  ·have := hp _ _ hN hi h3; omega
 ·intro h
  subst h
  exact k2
def jN (A : List Int) (N i : Nat) : List Int := if N < i then A ++ [(N : Int)] else A
theorem zNX (A : List Int) (N : Nat) : jN A N 0 = A := if_neg (by omega)
theorem zSg (A : List Int) (N i : Nat) : (jN A N i).length ≤ A.length + 1 := by
 unfold jN; split <;> simp
theorem zTB (A : List Int) {N i : Nat} (h : i = N) : jN A N (i + 1) = jN A N i ++ [(i : Int)] := by
 subst h; unfold jN; rw [if_pos (by omega), if_neg (by omega)]
theorem zSp (A : List Int) {N i : Nat} (h : ¬ i = N) : jN A N (i + 1) = jN A N i := by
 unfold jN
 by_cases h1 : N < i
 ·rw [if_pos (by omega), if_pos h1]
 ·rw [if_neg (by omega), if_neg h1]
theorem zJK (f g : Bool) (ns : List ByteArray) (us : List Nat) (sp : Sp) (o : Nat) (a b : Sta) (hu : U32 us) (hul : us.length ≤ 100) (ho : o ≤ 1000) (hal : hid us o a.l = true → hid us o b.l = true) (hab : VIn2 us.length a b) :
  Fn Tryz.prog 42 [.agg [.sl f 1 (zM ns), .sl g 1 (zL us)], .agg (spF false sp), .v (.int .i64 (o : Int)), .agg (zAN false false false false a), .agg (zAN false false false false b)] [] (emD (zAa sp us o a b)) [] := by
 obtain ⟨h1, h2, h3, hcL, hmL, hsL, haL, hbL⟩ := hab
 simp only [zAN, spF]
 refine Fn.of (fn := Tryz.f42) (by kernel_rfl) rfl (by kernel_rfl) ⟨[.agg [.sl f 1 (zM ns), .sl g 1 (zL us)], .agg [.v (.int .i64 sp.code), .v (.int .i64 sp.mem), .v (.int .i64 sp.stack), .v (.int .i64 sp.val), .sl false 1 (zK sp.ws)], .v (.int .i64 (o : Int)), .agg [.v (.int .i64 a.v), .v (.int .i64 a.l), .sl false 3 (zh a.code), .sl false 2 (zR a.mem), .sl false 3 (zc a.stack), .sl false 2 (zR a.out)], .agg [.v (.int .i64 b.v), .v (.int .i64 b.l), .sl false 3 (zh b.code), .sl false 2 (zR b.mem), .sl false 3 (zc b.stack), .sl false 2 (zR b.out)], .v undef, .v undef, .v undef, .v undef, .v undef, .v undef, .v undef, .v undef, .v undef, .v undef, .v undef, .v undef, .v undef, .v undef, .v undef, .v undef, .v undef, .v undef, .v undef, .v undef, .v undef, .v undef, .v undef, .v undef, .v undef, .v undef, .v undef, .v undef, .v undef, .v undef, .v undef, .v undef, .v undef, .v undef, .v undef, .v undef, .v undef, .v undef, .v undef, .v undef, .v undef, .v undef, .v undef, .v undef, .v undef, .v undef, .v undef, .v undef, .v undef, .v undef, .v undef, .v undef, .v undef, .v undef, .v undef, .v undef, .v undef, .v undef, .v undef, .v undef, .v undef, .v undef, .v undef, .v undef, .v undef, .v undef, .v undef, .v undef, .v undef, .v undef, .v undef, .v undef, .v undef, .v undef, .v undef, .v undef, .v undef, .v undef, .v undef, .v undef, .v undef, .v undef, .v undef, .v undef, .v undef, .v undef, .v undef, .v undef, .v undef, .v undef, .v undef, .v undef, .v undef, .v undef, .v undef, .v undef, .v undef, .v undef, .v undef, .v undef, .v undef, .v undef, .v undef, .v undef, .v undef, .v undef, .v undef, .v undef, .v undef, .v undef, .v undef, .v undef, .v undef, .v undef, .v undef, .v undef, .v undef, .v undef, .v undef, .v undef, .v undef, .v undef, .v undef, .v undef, .v undef, .v undef, .v undef, .v undef, .v undef, .v undef, .v undef, .v undef, .v undef, .v undef, .v undef, .v undef, .v undef, .v undef, .v undef, .v undef, .v undef, .v undef, .v undef, .v undef, .v undef, .v undef, .v undef, .v undef, .v undef], []⟩ rfl ?_
 repeat' first | (with_reducible first | refine zA ?_ | refine zB ?_ | refine zG ?_) | ((with_reducible refine zC fun KC J hJ hKC => ?_); simp (maxSteps := 9999999) only [push_cast, seval, ↓reduceIte]) | ((with_reducible refine hJ _ _ ?_); clear hJ hKC KC J)
 refine zi 5 (γ := {p : Nat × Option Nat // p.1 ≤ b.code.length ∧ (p.2 = none → pre [] b.code (vIL sp us o) p.1 = []) ∧ ∀ g, p.2 = some g → pre [] b.code (vIL sp us o) p.1 ≠ []}) (fun p => ⟨[.any, .any, .v (.int .i64 (o : Int)), .any, .any, .ptr 0 0 0, .ptr 1 0 0, .any, .ptr 2 0 0, .ptr 3 0 0, .any, oE 4 (pre [] b.code (vIL sp us o) p.1.1) p.1.2, .any, .any, .any, .any, .any, .any, .any, .any, .any, .any, .any, .sl false 3 (zh b.code), .v (.int .i64 b.code.length), .v (.int .i64 p.1.1), .any, .any, .any, .any, .any, .any, .any, .any, .any, .any, .any, .any, .any, .any, .any, .any, .any, .any, .any, .any, .any, .any, .any, .any, .any, .any, .any, .any, .any, .any, .any, .any, .any, .any, .any, .any, .any, .any, .any, .any, .any, .any, .any, .any, .any, .any, .any, .any, .any, .any, .any, .any, .any, .any, .any, .any, .any, .any, .any, .any, .any, .any, .any, .any, .any, .any, .any, .any, .any, .any, .any, .any, .any, .any, .any, .any, .any, .any, .any, .any, .any, .any, .any, .any, .any, .any, .any, .any, .any, .any, .any, .any, .any, .any, .any, .any, .any, .any, .any, .any, .any, .any, .any, .any, .any, .any, .any, .any, .any, .any, .any, .any, .any, .any, .any, .any, .any, .any, .any, .any, .any, .any, .any, .any, .any, .any, .any, .any], [.ent ⟨0, none, 25, [.sl f 1 (zM ns), .sl g 1 (zL us)], .cells⟩, .ent ⟨0, none, 28, [.v (.int .i64 sp.code), .v (.int .i64 sp.mem), .v (.int .i64 sp.stack), .v (.int .i64 sp.val), .sl false 1 (zK sp.ws)], .cells⟩, .ent ⟨0, none, 39, [.v (.int .i64 a.v), .v (.int .i64 a.l), .sl false 3 (zh a.code), .sl false 2 (zR a.mem), .sl false 3 (zc a.stack), .sl false 2 (zR a.out)], .cells⟩, .ent ⟨0, none, 39, [.v (.int .i64 b.v), .v (.int .i64 b.l), .sl false 3 (zh b.code), .sl false 2 (zR b.mem), .sl false 3 (zc b.stack), .sl false 2 (zR b.out)], .cells⟩, oS (pre [] b.code (vIL sp us o) p.1.1) p.1.2]⟩) (fun p => b.code.length - p.1.1) ⟨(0, none), by omega, (fun _ => zAj _ _ _), fun g h => by cases h⟩ (fun p => rfl) (fun p => ?_) (fun p => ?_) ⟨?_, ?_⟩ ?_
 ·refine zr ?_
  simp only [List.map_cons, List.map_nil, zHn]
  rfl
 ·obtain ⟨⟨i, og⟩, hp⟩ := p
  cases og <;> rfl
 ·simp only [zAj, zBr, zAW]
  exact Lq
 ·simp only [zAj, zBq]
  exact Fq
 rintro ⟨⟨i, og⟩, hi, hno, hns⟩
 dsimp only at hi hno hns ⊢
 by_cases hlt : (i : Int) < (b.code.length : Int)
 ·have hx : b.code[i]? = some b.code[i] := List.getElem?_eq_getElem (by omega)
  obtain ⟨x, hx0⟩ : ∃ x, b.code[i] = x := ⟨_, rfl⟩
  rw [hx0] at hx
  have hst : pre [] b.code (vIL sp us o) (i + 1) = (pre [] b.code (vIL sp us o) i) ++ vIL sp us o x := zDZ hx
  have hwn := zb (i := i) (n := b.code.length) (by omega) (by omega)
  have hLl := zBo (zIH sp us o) [] b.code i
  have hlab := hcL x (List.mem_of_getElem? hx)
  have hge := zAp hx
  obtain ⟨p, v, c⟩ := x
  simp only at hge hlab
  obtain ⟨L, hL⟩ : ∃ L, pre [] b.code (vIL sp us o) i = L := ⟨_, rfl⟩
  rw [hL] at hno hns hst hLl ⊢
  have hLb : L.length ≤ 150 := by (try simp only [List.length_nil] at hLl); omega
  have hnu := zCH false sp v
  obtain ⟨w, hw⟩ : ∃ u, zCN sp v = u := ⟨_, rfl⟩
  rw [hw] at hnu
  simp only [spF] at hnu
  by_cases e1 : p = 1
  ·have e1' : (p == 1) = true := by simpa using e1
   obtain ⟨c, rfl, hc⟩ := zAP (hlab e1)
   have hse := zz f g ns us o c hu hc ho
   obtain ⟨q, hq⟩ : ∃ q, fl us c o = q := ⟨_, rfl⟩
   have hh : hid us o (c : Int) = !q := by unfold hid; rw [Int.toNat_natCast, hq]
   rw [hq] at hse
   cases q
   case true =>
    rw [show vIL sp us o (p, v, (c : Int)) = [] by unfold vIL; rw [if_neg (by rw [hh]; simp)], List.append_nil] at hst
    repeat' first | (with_reducible first | refine zA ?_ | refine zB ?_ | refine zO ?_ | refine zJ ?_ | refine zG ?_) | ((with_reducible refine And.intro ?_ ?_); · exact Sq) | ((first | with_reducible refine zC fun KC J hJ hKC => ?_ | (refine hKC _ _ _ _ _ (zD (hse) rfl rfl rfl ?_ ?_); (· exact Lq))); simp (maxSteps := 9999999) only [push_cast, seval, ↓reduceIte, hlt, hge, hwn, e1', undef]) | ((with_reducible refine hJ _ _ ?_); clear hJ hKC KC J) | ((with_reducible refine zF ?_ ?_); · rfl) | ((with_reducible refine zH ?_ ?_); · rfl)
    refine ⟨⟨(i + 1, og), by simp only; omega, (fun h => by rw [hst]; exact hno h), fun g h => by rw [hst]; exact hns g h⟩, by simp only; omega, ?_, ?_⟩
    ·simp only [hst]
     exact Lq
    ·simp only [hst]
     exact ⟨_, rfl⟩
   case false =>
    rw [show vIL sp us o (p, v, (c : Int)) = [w] by unfold vIL; rw [if_pos ⟨e1, by rw [hh]; rfl⟩, hw]] at hst
    rcases og with _ | gg
    ·have hL0 := hno rfl
     rw [hL0, zBr, zBq, zAW]
     rw [hL0, List.nil_append] at hst
     repeat' first | (refine zCD 7 9 4 rfl rfl ?_; simp (maxSteps := 9999999) only [push_cast, seval, ↓reduceIte, zBG, mvK, zT, ren, ren2, ren1, ren0, hlt, hge, hwn, e1', undef]) | (with_reducible first | refine zA ?_ | refine zB ?_ | refine zJ ?_ | refine zG ?_) | ((with_reducible refine And.intro ?_ ?_); · exact Sq) | ((first | with_reducible refine zC fun KC J hJ hKC => ?_ | (refine hKC _ _ _ _ _ (zD (hse) rfl rfl rfl ?_ ?_); (· exact Lq)) | (refine hKC _ _ _ _ _ (zD (hnu) rfl rfl rfl ?_ ?_); (· exact Lq))); simp (maxSteps := 9999999) only [push_cast, seval, ↓reduceIte, hlt, hge, hwn, e1', undef]) | ((with_reducible refine hJ _ _ ?_); clear hJ hKC KC J) | ((with_reducible refine zF ?_ ?_); · rfl)
     refine ⟨⟨(i + 1, some 0), by simp only; omega, (fun h => by cases h), fun g h => by rw [hst]; simp⟩, by simp only; omega, ?_, ?_⟩
     ·simp only [hst, oE, List.length_cons, List.length_nil]
      exact Lq
     ·simp only [hst]
      exact ⟨_, rfl⟩
    ·rw [zBu, zBv]
     have hbq : Nat.beq gg gg = true := Nat.beq_refl gg
     have hlC : (zY L).length = L.length := zZ L
     have htk := zAM (L := L) rfl
     repeat' first | (with_reducible first | refine zA ?_ | refine zB ?_ | refine zO ?_ | refine zJ ?_ | refine zG ?_) | ((with_reducible refine And.intro ?_ ?_); · exact Sq) | ((first | with_reducible refine zC fun KC J hJ hKC => ?_ | (refine hKC _ _ _ _ _ (zD (hse) rfl rfl rfl ?_ ?_); (· exact Lq)) | (refine hKC _ _ _ _ _ (zD (hnu) rfl rfl rfl ?_ ?_); (· exact Lq))); simp (maxSteps := 9999999) only [push_cast, seval, ↓reduceIte, hlt, hge, hwn, hbq, hlC, htk, Nat.mul_one, e1', undef]) | ((with_reducible refine hJ _ _ ?_); clear hJ hKC KC J) | ((with_reducible refine zF ?_ ?_); · rfl)
     refine ⟨⟨(i + 1, some (gg + 1)), by simp only; omega, (fun h => by cases h), fun g h => by rw [hst]; simp⟩, by simp only; omega, ?_, ?_⟩
     ·simp only [hst, oE, List.length_append, List.length_cons, List.length_nil]
      exact Lq
     ·simp only [hst, oS, zAB]
      exact ⟨_, rfl⟩
  ·have e1' : (p == 1) = false := by simpa using e1
   rw [show vIL sp us o (p, v, c) = [] by unfold vIL; rw [if_neg (fun h => e1 h.1)], List.append_nil] at hst
   repeat' first | (with_reducible first | refine zA ?_ | refine zB ?_ | refine zO ?_ | refine zJ ?_ | refine zG ?_) | ((with_reducible refine And.intro ?_ ?_); · exact Sq) | ((with_reducible refine zC fun KC J hJ hKC => ?_); simp (maxSteps := 9999999) only [push_cast, seval, ↓reduceIte, hlt, hge, hwn, e1', undef]) | ((with_reducible refine hJ _ _ ?_); clear hJ hKC KC J) | ((with_reducible refine zF ?_ ?_); · rfl) | ((with_reducible refine zH ?_ ?_); · rfl)
   refine ⟨⟨(i + 1, og), by simp only; omega, (fun h => by rw [hst]; exact hno h), fun g h => by rw [hst]; exact hns g h⟩, by simp only; omega, ?_, ?_⟩
   ·simp only [hst]
    exact Lq
   ·simp only [hst]
    exact ⟨_, rfl⟩
 have hin : i = b.code.length := by omega
 have lA1 := zBo (zIH sp us o) [] b.code i
 rw [zDF hin] at hno hns lA1 ⊢
 obtain ⟨A1, hA1⟩ : ∃ l, [] ++ b.code.flatMap (vIL sp us o) = l := ⟨_, rfl⟩
 rw [hA1] at hno hns lA1 ⊢
 replace lA1 : A1.length ≤ 150 := by (try simp only [List.length_nil] at lA1); omega
 repeat' first | (with_reducible first | refine zA ?_ | refine zB ?_ | refine zX ?_ | refine zW ?_ | refine zQ ?_ | refine zG ?_) | ((with_reducible refine zC fun KC J hJ hKC => ?_); simp (maxSteps := 9999999) only [push_cast, seval, ↓reduceIte, hlt]) | ((with_reducible refine hJ _ _ ?_); clear hJ hKC KC J) | ((with_reducible refine zH ?_ ?_); · rfl)
 refine zi 5 (γ := {p : Nat × Option Nat // p.1 ≤ b.mem.length ∧ (p.2 = none → pre A1 b.mem (vAL sp us o) p.1 = []) ∧ ∀ g, p.2 = some g → pre A1 b.mem (vAL sp us o) p.1 ≠ []}) (fun p => ⟨[.any, .any, .v (.int .i64 (o : Int)), .any, .any, .ptr 0 0 0, .ptr 1 0 0, .any, .ptr 2 0 0, .ptr 3 0 0, .any, oE 4 (pre A1 b.mem (vAL sp us o) p.1.1) p.1.2, .any, .any, .any, .any, .any, .any, .any, .any, .any, .any, .any, .any, .any, .any, .any, .any, .any, .any, .any, .any, .any, .any, .any, .any, .any, .any, .any, .any, .any, .any, .any, .any, .any, .any, .any, .any, .any, .sl false 2 (zR b.mem), .v (.int .i64 b.mem.length), .v (.int .i64 p.1.1), .any, .any, .any, .any, .any, .any, .any, .any, .any, .any, .any, .any, .any, .any, .any, .any, .any, .any, .any, .any, .any, .any, .any, .any, .any, .any, .any, .any, .any, .any, .any, .any, .any, .any, .any, .any, .any, .any, .any, .any, .any, .any, .any, .any, .any, .any, .any, .any, .any, .any, .any, .any, .any, .any, .any, .any, .any, .any, .any, .any, .any, .any, .any, .any, .any, .any, .any, .any, .any, .any, .any, .any, .any, .any, .any, .any, .any, .any, .any, .any, .any, .any, .any, .any, .any, .any, .any, .any, .any, .any, .any, .any, .any, .any, .any, .any, .any, .any, .any, .any, .any, .any], [.ent ⟨0, none, 25, [.sl f 1 (zM ns), .sl g 1 (zL us)], .cells⟩, .ent ⟨0, none, 28, [.v (.int .i64 sp.code), .v (.int .i64 sp.mem), .v (.int .i64 sp.stack), .v (.int .i64 sp.val), .sl false 1 (zK sp.ws)], .cells⟩, .ent ⟨0, none, 39, [.v (.int .i64 a.v), .v (.int .i64 a.l), .sl false 3 (zh a.code), .sl false 2 (zR a.mem), .sl false 3 (zc a.stack), .sl false 2 (zR a.out)], .cells⟩, .ent ⟨0, none, 39, [.v (.int .i64 b.v), .v (.int .i64 b.l), .sl false 3 (zh b.code), .sl false 2 (zR b.mem), .sl false 3 (zc b.stack), .sl false 2 (zR b.out)], .cells⟩, oS (pre A1 b.mem (vAL sp us o) p.1.1) p.1.2]⟩) (fun p => b.mem.length - p.1.1) ⟨(0, og), by omega, (fun h => by rw [zAj]; exact hno h), fun g h => by rw [zAj]; exact hns g h⟩ (fun p => rfl) (fun p => ?_) (fun p => ?_) ⟨?_, ?_⟩ ?_
 ·refine zr ?_
  simp only [List.map_cons, List.map_nil, zHn]
  rfl
 ·obtain ⟨⟨i, og⟩, hp⟩ := p
  cases og <;> rfl
 ·simp only [zAj, zBr, zAW]
  exact Lq
 ·simp only [zAj, zBq]
  exact Fq
 rintro ⟨⟨i, og⟩, hi, hno, hns⟩
 dsimp only at hi hno hns ⊢
 by_cases hlt : (i : Int) < (b.mem.length : Int)
 ·have hx : b.mem[i]? = some b.mem[i] := List.getElem?_eq_getElem (by omega)
  obtain ⟨x, hx0⟩ : ∃ x, b.mem[i] = x := ⟨_, rfl⟩
  rw [hx0] at hx
  have hst : pre A1 b.mem (vAL sp us o) (i + 1) = (pre A1 b.mem (vAL sp us o) i) ++ vAL sp us o x := zDZ hx
  have hwn := zb (i := i) (n := b.mem.length) (by omega) (by omega)
  have hLl := zBo (zHg sp us o) A1 b.mem i
  have hlab := hmL x (List.mem_of_getElem? hx)
  have hge := zAK hx
  obtain ⟨v, c⟩ := x
  simp only at hge hlab
  obtain ⟨L, hL⟩ : ∃ L, pre A1 b.mem (vAL sp us o) i = L := ⟨_, rfl⟩
  rw [hL] at hno hns hst hLl ⊢
  have hLb : L.length ≤ 300 := by (try simp only [List.length_nil] at hLl); omega
  have hnu := zCH false sp v
  obtain ⟨w, hw⟩ : ∃ u, zCN sp v = u := ⟨_, rfl⟩
  rw [hw] at hnu
  simp only [spF] at hnu
  obtain ⟨c, rfl, hc⟩ := zAP hlab
  have hse := zz f g ns us o c hu hc ho
  obtain ⟨q, hq⟩ : ∃ q, fl us c o = q := ⟨_, rfl⟩
  have hh : hid us o (c : Int) = !q := by unfold hid; rw [Int.toNat_natCast, hq]
  rw [hq] at hse
  cases q
  case true =>
   rw [show vAL sp us o (v, (c : Int)) = [] by unfold vAL; rw [if_neg (by rw [hh]; simp)], List.append_nil] at hst
   repeat' first | (with_reducible first | refine zA ?_ | refine zB ?_ | refine zO ?_ | refine zJ ?_ | refine zG ?_) | ((with_reducible refine And.intro ?_ ?_); · exact Sq) | ((first | with_reducible refine zC fun KC J hJ hKC => ?_ | (refine hKC _ _ _ _ _ (zD (hse) rfl rfl rfl ?_ ?_); (· exact Lq))); simp (maxSteps := 9999999) only [push_cast, seval, ↓reduceIte, hlt, hge, hwn, undef]) | ((with_reducible refine hJ _ _ ?_); clear hJ hKC KC J) | ((with_reducible refine zF ?_ ?_); · rfl) | ((with_reducible refine zH ?_ ?_); · rfl)
   refine ⟨⟨(i + 1, og), by simp only; omega, (fun h => by rw [hst]; exact hno h), fun g h => by rw [hst]; exact hns g h⟩, by simp only; omega, ?_, ?_⟩
   ·simp only [hst]
    exact Lq
   ·simp only [hst]
    exact ⟨_, rfl⟩
  case false =>
   rw [show vAL sp us o (v, (c : Int)) = [w] by unfold vAL; rw [if_pos (by rw [hh]; rfl), hw]] at hst
   rcases og with _ | gg
   ·have hL0 := hno rfl
    rw [hL0, zBr, zBq, zAW]
    rw [hL0, List.nil_append] at hst
    repeat' first | (refine zCD 13 9 4 rfl rfl ?_; simp (maxSteps := 9999999) only [push_cast, seval, ↓reduceIte, zBG, mvK, zT, ren, ren2, ren1, ren0, hlt, hge, hwn, undef]) | (with_reducible first | refine zA ?_ | refine zB ?_ | refine zJ ?_ | refine zG ?_) | ((with_reducible refine And.intro ?_ ?_); · exact Sq) | ((first | with_reducible refine zC fun KC J hJ hKC => ?_ | (refine hKC _ _ _ _ _ (zD (hse) rfl rfl rfl ?_ ?_); (· exact Lq)) | (refine hKC _ _ _ _ _ (zD (hnu) rfl rfl rfl ?_ ?_); (· exact Lq))); simp (maxSteps := 9999999) only [push_cast, seval, ↓reduceIte, hlt, hge, hwn, undef]) | ((with_reducible refine hJ _ _ ?_); clear hJ hKC KC J) | ((with_reducible refine zF ?_ ?_); · rfl)
    refine ⟨⟨(i + 1, some 0), by simp only; omega, (fun h => by cases h), fun g h => by rw [hst]; simp⟩, by simp only; omega, ?_, ?_⟩
    ·simp only [hst, oE, List.length_cons, List.length_nil]
     exact Lq
    ·simp only [hst]
     exact ⟨_, rfl⟩
   ·rw [zBu, zBv]
    have hbq : Nat.beq gg gg = true := Nat.beq_refl gg
    have hlC : (zY L).length = L.length := zZ L
    have htk := zAM (L := L) rfl
    repeat' first | (with_reducible first | refine zA ?_ | refine zB ?_ | refine zO ?_ | refine zJ ?_ | refine zG ?_) | ((with_reducible refine And.intro ?_ ?_); · exact Sq) | ((first | with_reducible refine zC fun KC J hJ hKC => ?_ | (refine hKC _ _ _ _ _ (zD (hse) rfl rfl rfl ?_ ?_); (· exact Lq)) | (refine hKC _ _ _ _ _ (zD (hnu) rfl rfl rfl ?_ ?_); (· exact Lq))); simp (maxSteps := 9999999) only [push_cast, seval, ↓reduceIte, hlt, hge, hwn, hbq, hlC, htk, Nat.mul_one, undef]) | ((with_reducible refine hJ _ _ ?_); clear hJ hKC KC J) | ((with_reducible refine zF ?_ ?_); · rfl)
    refine ⟨⟨(i + 1, some (gg + 1)), by simp only; omega, (fun h => by cases h), fun g h => by rw [hst]; simp⟩, by simp only; omega, ?_, ?_⟩
    ·simp only [hst, oE, List.length_append, List.length_cons, List.length_nil]
     exact Lq
    ·simp only [hst, oS, zAB]
     exact ⟨_, rfl⟩
 have hin : i = b.mem.length := by omega
 have lA2 := zBo (zHg sp us o) A1 b.mem i
 rw [zDF hin] at hno hns lA2 ⊢
 obtain ⟨A2, hA2⟩ : ∃ l, A1 ++ b.mem.flatMap (vAL sp us o) = l := ⟨_, rfl⟩
 rw [hA2] at hno hns lA2 ⊢
 replace lA2 : A2.length ≤ 300 := by (try simp only [List.length_nil] at lA2); omega
 obtain ⟨c, hac, hc⟩ := zAP haL
 have hse := zz f g ns us o c hu hc ho
 obtain ⟨q, hq⟩ : ∃ q, fl us c o = q := ⟨_, rfl⟩
 have hh : hid us o a.l = !q := by unfold hid; rw [hac, Int.toNat_natCast, hq]
 rw [hq] at hse
 rw [← hac] at hse
 cases q
 case true =>
  have hfin : zAa sp us o a b = A2 ++ b.stack.flatMap (vSL sp us o) := by
   unfold zAa; rw [if_neg (by rw [hh]; simp), ← hA2, ← hA1]; simp only [List.nil_append, List.append_assoc]
  rw [hfin]
  have hhi := zEy f g ns us sp o b.stack hu ho (by omega) hsL
  obtain ⟨H, hH⟩ : ∃ l, b.stack.flatMap (vSL sp us o) = l := ⟨_, rfl⟩
  have lH : H.length ≤ 150 := by have := zAG (zDw sp us o) b.stack; rw [hH] at this; omega
  rw [hH] at hhi ⊢
  simp only [spF] at hhi
  rcases og with _ | gg
  ·rw [hno rfl, zBr, zBq, zAW, List.nil_append]
   rcases H with _ | ⟨h0, H⟩
   ·rw [show emD [] = .sl true 1 [] from rfl] at hhi ⊢
    repeat' first | (with_reducible first | refine zA ?_ | refine zB ?_ | refine zS ?_ | refine zX ?_ | refine zW ?_ | refine zI ?_ | refine zQ ?_) | ((first | with_reducible refine zC fun KC J hJ hKC => ?_ | (refine hKC _ _ _ _ _ (zD (hse) rfl rfl rfl ?_ ?_); (· exact Lq)) | (refine hKC _ _ _ _ _ (zD (hhi) rfl rfl rfl ?_ ?_); (· exact Lq))); simp (maxSteps := 9999999) only [push_cast, seval, ↓reduceIte, hlt, zBQ]) | ((with_reducible refine hJ _ _ ?_); clear hJ hKC KC J) | ((with_reducible refine zF ?_ ?_); · rfl) | ((with_reducible refine zH ?_ ?_); · rfl)
    refine zE ?_
    simp (maxSteps := 9999999) only [push_cast, seval, ↓reduceIte, show Tryz.f42.results = #[(.tmp 10)] from rfl]
    exact Lq
   ·rw [show emD (h0 :: H) = .sl false 1 (zK (h0 :: H)) from rfl] at hhi ⊢
    obtain ⟨R, hR⟩ : ∃ R, h0 :: H = R := ⟨_, rfl⟩
    have hnz : zBQ (zK R) = false := by rw [← hR]; rfl
    rw [hR] at hhi lH ⊢
    have hfl : (zK R).flatten = zY R := zAb R
    have hrl : (zK R).length = R.length := by simp [zK]
    have hlC : (zY R).length = R.length := zZ R
    have hcp : zBF 1 R.length (zY R) = zK R := zBn R
    repeat' first | (with_reducible first | refine zA ?_ | refine zB ?_ | refine zX ?_ | refine zW ?_ | refine zQ ?_) | ((with_reducible refine And.intro ?_ ?_); · exact Sq) | ((first | with_reducible refine zC fun KC J hJ hKC => ?_ | (refine hKC _ _ _ _ _ (zD (hse) rfl rfl rfl ?_ ?_); (· exact Lq)) | (refine hKC _ _ _ _ _ (zD (hhi) rfl rfl rfl ?_ ?_); (· exact Lq))); simp (maxSteps := 9999999) only [push_cast, seval, ↓reduceIte, hlt, hnz, hfl, hrl, hlC, List.nil_append]) | ((with_reducible refine hJ _ _ ?_); clear hJ hKC KC J) | ((with_reducible refine zF ?_ ?_); · rfl) | ((with_reducible refine zH ?_ ?_); · rfl)
    refine zt 7 rfl (by simp (maxSteps := 9999999) only [push_cast, seval, ↓reduceIte]) ?_
    simp (maxSteps := 9999999) only [push_cast, seval, ↓reduceIte, zAH, zd, fr3, fr2, fr1, fr0, zl, zj, hlC, hcp, Nat.mul_one]
    refine zI ?_
    refine zE ?_
    simp (maxSteps := 9999999) only [push_cast, seval, ↓reduceIte, show Tryz.f42.results = #[(.tmp 10)] from rfl]
    exact Lq
  ·rw [zBu, zBv]
   have hbq : Nat.beq gg gg = true := Nat.beq_refl gg
   have hA0 := hns gg rfl
   rcases H with _ | ⟨h0, H⟩
   ·rw [show emD [] = .sl true 1 [] from rfl] at hhi
    rw [List.append_nil, show emD A2 = .sl false 1 (zK A2) from if_neg hA0]
    have hlC : (zY A2).length = A2.length := zZ A2
    have hcp : zBF 1 A2.length (zY A2) = zK A2 := zBn A2
    repeat' first | (with_reducible first | refine zA ?_ | refine zB ?_ | refine zX ?_ | refine zW ?_ | refine zQ ?_) | ((first | with_reducible refine zC fun KC J hJ hKC => ?_ | (refine hKC _ _ _ _ _ (zD (hse) rfl rfl rfl ?_ ?_); (· exact Lq)) | (refine hKC _ _ _ _ _ (zD (hhi) rfl rfl rfl ?_ ?_); (· exact Lq))); simp (maxSteps := 9999999) only [push_cast, seval, ↓reduceIte, hlt, zBQ, hbq]) | ((with_reducible refine hJ _ _ ?_); clear hJ hKC KC J) | ((with_reducible refine zF ?_ ?_); · rfl) | ((with_reducible refine zH ?_ ?_); · rfl)
    refine zt 4 rfl (by simp (maxSteps := 9999999) only [push_cast, seval, ↓reduceIte]) ?_
    simp (maxSteps := 9999999) only [push_cast, seval, ↓reduceIte, zAH, zd, fr3, fr2, fr1, fr0, zl, zj, hbq, hlC, hcp, Nat.mul_one]
    refine zI ?_
    refine zE ?_
    simp (maxSteps := 9999999) only [push_cast, seval, ↓reduceIte, show Tryz.f42.results = #[(.tmp 10)] from rfl]
    exact Lq
   ·rw [show emD (h0 :: H) = .sl false 1 (zK (h0 :: H)) from rfl] at hhi
    obtain ⟨R, hR⟩ : ∃ R, h0 :: H = R := ⟨_, rfl⟩
    have hnz : zBQ (zK R) = false := by rw [← hR]; rfl
    rw [hR] at hhi lH ⊢
    have hfl : (zK R).flatten = zY R := zAb R
    have hrl : (zK R).length = R.length := by simp [zK]
    have hlC : (zY A2).length = A2.length := zZ A2
    have htk := zAM (L := A2) rfl
    obtain ⟨A3, hA3⟩ : ∃ l, A2 ++ R = l := ⟨_, rfl⟩
    have lA3 : A3.length = A2.length + R.length := by rw [← hA3]; simp
    have cA3 : zY A2 ++ zY R = zY A3 := by rw [← hA3, zAB]
    have hlC3 : (zY A3).length = A3.length := zZ A3
    have hcp3 : zBF 1 A3.length (zY A3) = zK A3 := zBn A3
    have hbq2 : Nat.beq (gg + 1) (gg + 1) = true := Nat.beq_refl _
    rw [hA3, show emD A3 = .sl false 1 (zK A3) from if_neg (by rw [← hA3]; simp [hA0])]
    repeat' first | (with_reducible first | refine zA ?_ | refine zB ?_ | refine zX ?_ | refine zW ?_ | refine zQ ?_) | ((with_reducible refine And.intro ?_ ?_); · exact Sq) | ((first | with_reducible refine zC fun KC J hJ hKC => ?_ | (refine hKC _ _ _ _ _ (zD (hse) rfl rfl rfl ?_ ?_); (· exact Lq)) | (refine hKC _ _ _ _ _ (zD (hhi) rfl rfl rfl ?_ ?_); (· exact Lq))); simp (maxSteps := 9999999) only [push_cast, seval, ↓reduceIte, hlt, hnz, hfl, hrl, hbq, hlC, htk, Nat.mul_one, cA3, lA3.symm]) | ((with_reducible refine hJ _ _ ?_); clear hJ hKC KC J) | ((with_reducible refine zF ?_ ?_); · rfl) | ((with_reducible refine zH ?_ ?_); · rfl)
    refine zt 4 rfl (by simp (maxSteps := 9999999) only [push_cast, seval, ↓reduceIte]) ?_
    simp (maxSteps := 9999999) only [push_cast, seval, ↓reduceIte, zAH, zd, fr3, fr2, fr1, fr0, zl, zj, hbq2, hlC3, hcp3, Nat.mul_one]
    refine zI ?_
    refine zE ?_
    simp (maxSteps := 9999999) only [push_cast, seval, ↓reduceIte, show Tryz.f42.results = #[(.tmp 10)] from rfl]
    exact Lq
 case false =>
  have hbh := hal (by rw [hh]; rfl)
  obtain ⟨k, hk⟩ : ∃ k, (zAV us o b.stack).length = k := ⟨_, rfl⟩
  have hcrop := zFq f g false ns us o b.stack hu ho (by omega) hsL
  have hcr : zAV us o b.stack = b.stack.take k := by rw [← hk]; unfold zAV; rw [List.length_take, Nat.min_eq_left (zHx _ _)]
  have hkl : k ≤ b.stack.length := by rw [← hk]; unfold zAV; rw [List.length_take]; omega
  have hrl : (zc (zAV us o b.stack)).length = k := by simp [zc, hk]
  obtain ⟨CR, hCR⟩ : ∃ r, zc (zAV us o b.stack) = r := ⟨_, rfl⟩
  rw [hCR] at hcrop hrl
  have htl : (b.stack.take k).length = k := by rw [List.length_take]; omega
  have hsT : ∀ x ∈ b.stack.take k, zn us.length x.2.2 = false := fun x hx => hsL x (List.mem_of_mem_take hx)
  have hdl : (b.stack.drop k).length = b.stack.length - k := List.length_drop
  have hhi := zEy f g ns us sp o (b.stack.take k) hu ho (by omega) hsT
  have hfin : zAa sp us o a b = (((((A2 ++ (b.stack.take k).flatMap (vSL sp us o)) ++ [(b.stack.length : Int) - (k : Int)]) ++ (b.stack.drop k).flatMap (zBZ sp)) ++ [b.v]) ++ [(zDR us o b.l : Int)]) := by
   unfold zAa; rw [if_pos (by rw [hh]; rfl), hk, hcr, ← hA2, ← hA1]; simp only [List.append_assoc, List.cons_append, List.nil_append]
  rw [hfin]
  have hle2 : ((k : Int) ≤ (b.stack.length : Int)) = True := eq_true (by omega)
  obtain ⟨H, hH⟩ : ∃ l, (b.stack.take k).flatMap (vSL sp us o) = l := ⟨_, rfl⟩
  have lH : H.length ≤ 150 := by have := zAG (zDw sp us o) (b.stack.take k); rw [hH] at this; omega
  rw [hH] at hhi ⊢
  simp only [spF] at hhi
  obtain ⟨A3, hA3⟩ : ∃ l, A2 ++ H = l := ⟨_, rfl⟩
  have lA3 : A3.length = A2.length + H.length := by rw [← hA3]; simp
  rw [hA3]
  obtain ⟨og3, hog3⟩ : ∃ x, oX og H = x := ⟨_, rfl⟩
  have hno3 : og3 = none → A3 = [] := fun h => by
   rw [← hog3] at h
   unfold oX at h
   split at h
   ·rename_i hH0; rw [← hA3, hH0, hno h]; rfl
   ·cases h
  repeat' first | (with_reducible refine zLZ 18 ?_) | (with_reducible first | refine zA ?_ | refine zB ?_ | refine zX ?_ | refine zW ?_ | refine zJ ?_ | refine zQ ?_) | ((first | with_reducible refine zC fun KC J hJ hKC => ?_ | (refine hKC _ _ _ _ _ (zD (hse) rfl rfl rfl ?_ ?_); (· exact Lq)) | (refine hKC _ _ _ _ _ (zD (hcrop) rfl rfl rfl ?_ ?_); (· exact Lq))); simp (maxSteps := 9999999) only [push_cast, seval, ↓reduceIte, hlt, hrl]) | ((with_reducible refine hJ _ _ ?_); clear hJ hKC KC J) | ((with_reducible refine zH ?_ ?_); · rfl)
  refine zFY ⟨[.any, .any, .v (.int .i64 (o : Int)), .any, .any, .ptr 0 0 0, .ptr 1 0 0, .any, .ptr 2 0 0, .ptr 3 0 0, .any, oE 4 A3 og3, .any, .any, .any, .any, .v (.int .i64 (k : Int)), .any, .any, .any, .any, .any, .any, .any, .any, .any, .any, .any, .any, .any, .any, .any, .any, .any, .any, .any, .any, .any, .any, .any, .any, .any, .any, .any, .any, .any, .any, .any, .any, .any, .any, .any, .any, .any, .any, .any, .any, .any, .any, .any, .any, .any, .any, .any, .any, .any, .any, .any, .any, .any, .any, .any, .any, .any, .any, .any, .any, .any, .any, .any, .any, .any, .any, .any, .any, .any, .any, .any, .any, .any, .any, .any, .any, .any, .any, .any, .any, .any, .any, .any, .any, .any, .any, .any, .any, .any, .any, .any, .any, .any, .any, .any, .any, .any, .any, .any, .any, .any, .any, .any, .any, .any, .any, .any, .any, .any, .any, .any, .any, .any, .any, .any, .any, .any, .any, .any, .any, .any, .any, .any, .any, .any, .any, .any, .any, .any, .any, .any, .any, .any, .any, .any, .any, .any], [.ent ⟨0, none, 25, [.sl f 1 (zM ns), .sl g 1 (zL us)], .cells⟩, .ent ⟨0, none, 28, [.v (.int .i64 sp.code), .v (.int .i64 sp.mem), .v (.int .i64 sp.stack), .v (.int .i64 sp.val), .sl false 1 (zK sp.ws)], .cells⟩, .ent ⟨0, none, 39, [.v (.int .i64 a.v), .v (.int .i64 a.l), .sl false 3 (zh a.code), .sl false 2 (zR a.mem), .sl false 3 (zc a.stack), .sl false 2 (zR a.out)], .cells⟩, .ent ⟨0, none, 39, [.v (.int .i64 b.v), .v (.int .i64 b.l), .sl false 3 (zh b.code), .sl false 2 (zR b.mem), .sl false 3 (zc b.stack), .sl false 2 (zR b.out)], .cells⟩, oS A3 og3, .free, .free, .free, .dead]⟩ ?_ ?_
  ·rcases og with _ | gg
   ·rw [hno rfl, List.nil_append] at hA3
    subst hA3
    rw [hno rfl, zBr, zBq, zAW]
    rcases H with _ | ⟨h0, H⟩
    ·rw [show emD [] = .sl true 1 [] from rfl] at hhi
     rw [show oX none [] = none from rfl] at hog3
     subst hog3
     repeat' first | ((with_reducible refine And.intro ?_ ?_); · exact Sq) | ((first | with_reducible refine zU rfl fun KC J hJ hKC => ?_ | (refine hKC _ _ _ _ _ (zD (hhi) rfl rfl rfl ?_ ?_); (· exact Lq))); simp (maxSteps := 9999999) only [push_cast, seval, ↓reduceIte, zBQ, hle2, Int.toNat_natCast, zCo]) | (((with_reducible refine hJ _ _ ?_ ?_; · kernel_rfl)); clear hJ hKC KC J)
     refine ⟨?_, ?_⟩
     ·simp only [zBr, zAW]
      exact Lq
     ·simp only [zBq]
      exact LSv
    ·rw [show emD (h0 :: H) = .sl false 1 (zK (h0 :: H)) from rfl] at hhi
     rw [show oX none (h0 :: H) = some 0 from rfl] at hog3
     subst hog3
     obtain ⟨R, hR⟩ : ∃ R, h0 :: H = R := ⟨_, rfl⟩
     have hnz : zBQ (zK R) = false := by rw [← hR]; rfl
     rw [hR] at hhi lH ⊢
     have hfl : (zK R).flatten = zY R := zAb R
     have hrl : (zK R).length = R.length := by simp [zK]
     refine zDG 8 4 ?_
     repeat' first | ((with_reducible refine And.intro ?_ ?_); · exact Sq) | ((first | with_reducible refine zU rfl fun KC J hJ hKC => ?_ | (refine hKC _ _ _ _ _ (zD (hhi) rfl rfl rfl ?_ ?_); (· exact Lq))); simp (maxSteps := 9999999) only [push_cast, seval, ↓reduceIte, hle2, Int.toNat_natCast, zCo, hnz, hfl, hrl, List.nil_append]) | (((with_reducible refine hJ _ _ ?_ ?_; · kernel_rfl)); clear hJ hKC KC J)
     refine ⟨⟨_, rfl⟩, rfl, rfl, ?_, ?_⟩
     ·simp (maxSteps := 9999999) only [push_cast, seval, ↓reduceIte, zBG, mvK, ren, ren2, ren1, ren0, zBu]
      exact Lq
     ·simp (maxSteps := 9999999) only [push_cast, seval, ↓reduceIte, zBG, mvK, zT, ren, ren2, ren1, ren0, zBv, zAL]
      exact LSv
   ·rw [zBu, zBv]
    have hbq : Nat.beq gg gg = true := Nat.beq_refl gg
    rcases H with _ | ⟨h0, H⟩
    ·rw [show emD [] = .sl true 1 [] from rfl] at hhi
     rw [show oX (some gg) [] = some gg from rfl] at hog3
     rw [List.append_nil] at hA3
     subst hog3
     subst hA3
     repeat' first | ((with_reducible refine And.intro ?_ ?_); · exact Sq) | ((first | with_reducible refine zU rfl fun KC J hJ hKC => ?_ | (refine hKC _ _ _ _ _ (zD (hhi) rfl rfl rfl ?_ ?_); (· exact Lq))); simp (maxSteps := 9999999) only [push_cast, seval, ↓reduceIte, zBQ, hbq, hle2, Int.toNat_natCast, zCo]) | (((with_reducible refine hJ _ _ ?_ ?_; · kernel_rfl)); clear hJ hKC KC J)
     refine ⟨?_, ?_⟩
     ·simp only [zBu]
      exact Lq
     ·simp only [zBv]
      exact LSv
    ·rw [show emD (h0 :: H) = .sl false 1 (zK (h0 :: H)) from rfl] at hhi
     rw [show oX (some gg) (h0 :: H) = some (gg + 1) from rfl] at hog3
     subst hog3
     obtain ⟨R, hR⟩ : ∃ R, h0 :: H = R := ⟨_, rfl⟩
     have hnz : zBQ (zK R) = false := by rw [← hR]; rfl
     rw [hR] at hhi lH hA3 lA3
     have hfl : (zK R).flatten = zY R := zAb R
     have hrl : (zK R).length = R.length := by simp [zK]
     have hlC : (zY A2).length = A2.length := zZ A2
     have htk := zAM (L := A2) rfl
     have cA3 : zY A2 ++ zY R = zY A3 := by rw [← hA3, zAB]
     repeat' first | ((with_reducible refine And.intro ?_ ?_); · exact Sq) | ((first | with_reducible refine zU rfl fun KC J hJ hKC => ?_ | (refine hKC _ _ _ _ _ (zD (hhi) rfl rfl rfl ?_ ?_); (· exact Lq))); simp (maxSteps := 9999999) only [push_cast, seval, ↓reduceIte, hle2, Int.toNat_natCast, zCo, hnz, hfl, hrl, hbq, hlC, htk, Nat.mul_one, cA3, lA3.symm]) | (((with_reducible refine hJ _ _ ?_ ?_; · kernel_rfl)); clear hJ hKC KC J)
     refine ⟨?_, ?_⟩
     ·simp only [zBu]
      exact Lq
     ·simp only [zBv]
      exact LSv
  obtain ⟨A4, hA4⟩ : ∃ l, A3 ++ [(b.stack.length : Int) - (k : Int)] = l := ⟨_, rfl⟩
  have lA4 : A4.length = A3.length + 1 := by rw [← hA4]; simp
  have cA4 : zY A4 = zY A3 ++ [.v (.int .i64 ((b.stack.length : Int) - (k : Int)))] := by rw [← hA4, zAB]; rfl
  have hsub : IntKind.i64.wrap ((b.stack.length : Int) - (k : Int)) = (b.stack.length : Int) - (k : Int) := by rw [IntKind.wrap_i64]; omega
  rw [hA4]
  repeat' first | (with_reducible refine zLZ 19 ?_)
  refine zFY ⟨[.any, .any, .v (.int .i64 (o : Int)), .any, .any, .ptr 0 0 0, .ptr 1 0 0, .any, .ptr 2 0 0, .ptr 3 0 0, .any, .ref 4 (oG og3) A4.length, .any, .any, .any, .any, .v (.int .i64 (k : Int)), .any, .any, .any, .any, .any, .any, .any, .any, .any, .any, .any, .any, .any, .any, .any, .any, .any, .any, .any, .any, .any, .any, .any, .any, .any, .any, .any, .any, .any, .any, .any, .any, .any, .any, .any, .any, .any, .any, .any, .any, .any, .any, .any, .any, .any, .any, .any, .any, .any, .any, .any, .any, .any, .any, .any, .any, .any, .any, .any, .any, .any, .any, .any, .any, .any, .any, .any, .any, .any, .any, .any, .any, .any, .any, .any, .any, .any, .any, .any, .any, .any, .any, .any, .any, .any, .any, .any, .any, .any, .any, .any, .any, .any, .any, .any, .any, .any, .any, .any, .any, .any, .any, .any, .any, .any, .any, .any, .any, .any, .any, .any, .any, .any, .any, .any, .any, .any, .any, .any, .any, .any, .any, .any, .any, .any, .any, .any, .any, .any, .any, .any, .any, .any, .any, .any, .any, .any], [.ent ⟨0, none, 25, [.sl f 1 (zM ns), .sl g 1 (zL us)], .cells⟩, .ent ⟨0, none, 28, [.v (.int .i64 sp.code), .v (.int .i64 sp.mem), .v (.int .i64 sp.stack), .v (.int .i64 sp.val), .sl false 1 (zK sp.ws)], .cells⟩, .ent ⟨0, none, 39, [.v (.int .i64 a.v), .v (.int .i64 a.l), .sl false 3 (zh a.code), .sl false 2 (zR a.mem), .sl false 3 (zc a.stack), .sl false 2 (zR a.out)], .cells⟩, .ent ⟨0, none, 39, [.v (.int .i64 b.v), .v (.int .i64 b.l), .sl false 3 (zh b.code), .sl false 2 (zR b.mem), .sl false 3 (zc b.stack), .sl false 2 (zR b.out)], .cells⟩, .ent ⟨oG og3, some 1, 3, zY A4, .cells⟩, .free, .free, .free, .dead, .free, .dead]⟩ ?_ ?_
  ·rcases og3 with _ | gg
   ·rw [hno3 rfl] at lA4 cA4
    rw [hno3 rfl, zBr, zBq, zAW]
    refine zDG 10 4 ?_
    repeat' first | ((with_reducible refine zC fun KC J hJ hKC => ?_); simp (maxSteps := 9999999) only [push_cast, seval, ↓reduceIte, hsub]) | ((with_reducible refine hJ _ _ ?_); clear hJ hKC KC J)
    refine ⟨⟨_, rfl⟩, rfl, rfl, ?_, ?_⟩
    ·simp (maxSteps := 9999999) only [push_cast, seval, ↓reduceIte, zBG, mvK, ren, ren2, ren1, ren0, lA4, oG, List.length_nil]
     exact Lq
    ·simp (maxSteps := 9999999) only [push_cast, seval, ↓reduceIte, zBG, mvK, zT, ren, ren2, ren1, ren0, cA4, oG, zJu, List.nil_append]
     exact LSv
   ·rw [zBu, zBv]
    have hbq : Nat.beq gg gg = true := Nat.beq_refl gg
    have hlC : (zY A3).length = A3.length := zZ A3
    have htk := zAM (L := A3) rfl
    repeat' first | ((with_reducible refine And.intro ?_ ?_); · exact Sq) | ((with_reducible refine zC fun KC J hJ hKC => ?_); simp (maxSteps := 9999999) only [push_cast, seval, ↓reduceIte, hsub, hbq, hlC, htk, Nat.mul_one, cA4.symm, lA4.symm]) | ((with_reducible refine hJ _ _ ?_); clear hJ hKC KC J)
    refine ⟨?_, ?_⟩
    ·simp only [oG]
     exact Lq
    ·simp only [oG]
     exact LSv
  obtain ⟨G, hG⟩ : ∃ g, oG og3 = g := ⟨_, rfl⟩
  rw [hG]
  have htk : b.stack.take b.stack.length = b.stack := List.take_length
  repeat' first | (with_reducible first | refine zA ?_ | refine zB ?_ | refine zG ?_) | ((with_reducible refine And.intro ?_ ?_); · exact Sq) | ((with_reducible refine zC fun KC J hJ hKC => ?_); simp (maxSteps := 9999999) only [push_cast, seval, ↓reduceIte, hle2, Int.toNat_natCast, zJi, htk]) | ((with_reducible refine hJ _ _ ?_); clear hJ hKC KC J)
  refine zi 11 (γ := {p : Nat × Nat // p.1 ≤ (b.stack.drop k).length}) (fun p => ⟨[.any, .any, .v (.int .i64 (o : Int)), .any, .any, .ptr 0 0 0, .ptr 1 0 0, .any, .ptr 2 0 0, .ptr 3 0 0, .any, .ref 4 p.1.2 (pre A4 (b.stack.drop k) (zBZ sp) p.1.1).length, .any, .any, .any, .any, .any, .any, .any, .any, .any, .any, .any, .any, .any, .any, .any, .any, .any, .any, .any, .any, .any, .any, .any, .any, .any, .any, .any, .any, .any, .any, .any, .any, .any, .any, .any, .any, .any, .any, .any, .any, .any, .any, .any, .any, .any, .any, .any, .any, .any, .any, .any, .any, .any, .any, .any, .any, .any, .any, .any, .any, .any, .any, .any, .any, .any, .any, .any, .any, .any, .any, .any, .any, .any, .any, .any, .any, .any, .any, .any, .any, .any, .any, .any, .any, .any, .any, .any, .any, .any, .any, .any, .any, .any, .any, .any, .any, .any, .any, .any, .sl false 3 (zc (b.stack.drop k)), .v (.int .i64 (b.stack.drop k).length), .v (.int .i64 p.1.1), .any, .any, .any, .any, .any, .any, .any, .any, .any, .any, .any, .any, .any, .any, .any, .any, .any, .any, .any, .any, .any, .any, .any, .any, .any, .any, .any, .any, .any, .any, .any, .any, .any, .any, .any, .any, .any, .any, .any, .any], [.ent ⟨0, none, 25, [.sl f 1 (zM ns), .sl g 1 (zL us)], .cells⟩, .ent ⟨0, none, 28, [.v (.int .i64 sp.code), .v (.int .i64 sp.mem), .v (.int .i64 sp.stack), .v (.int .i64 sp.val), .sl false 1 (zK sp.ws)], .cells⟩, .ent ⟨0, none, 39, [.v (.int .i64 a.v), .v (.int .i64 a.l), .sl false 3 (zh a.code), .sl false 2 (zR a.mem), .sl false 3 (zc a.stack), .sl false 2 (zR a.out)], .cells⟩, .ent ⟨0, none, 39, [.v (.int .i64 b.v), .v (.int .i64 b.l), .sl false 3 (zh b.code), .sl false 2 (zR b.mem), .sl false 3 (zc b.stack), .sl false 2 (zR b.out)], .cells⟩, .ent ⟨p.1.2, some 1, 3, zY (pre A4 (b.stack.drop k) (zBZ sp) p.1.1), .cells⟩, .free, .free, .free, .dead, .free, .dead]⟩) (fun p => (b.stack.drop k).length - p.1.1) ⟨(0, G), by omega⟩ (fun p => rfl) (fun p => ?_) (fun p => rfl) ⟨?_, ?_⟩ ?_
  ·refine zr ?_
   simp only [List.map_cons, List.map_nil, zx, zAL]
   rfl
  ·simp only [zAj]
   exact Lq
  ·simp only [zAj]
   exact Fq
  rintro ⟨⟨i, gg⟩, hi⟩
  dsimp only at hi ⊢
  by_cases hlt : (i : Int) < ((b.stack.drop k).length : Int)
  ·have hx : (b.stack.drop k)[i]? = some (b.stack.drop k)[i] := List.getElem?_eq_getElem (by omega)
   obtain ⟨x, hx0⟩ : ∃ x, (b.stack.drop k)[i] = x := ⟨_, rfl⟩
   rw [hx0] at hx
   have hst : pre A4 (b.stack.drop k) (zBZ sp) (i + 1) = (pre A4 (b.stack.drop k) (zBZ sp) i) ++ zBZ sp x := zDZ hx
   have hwn := zb (i := i) (n := (b.stack.drop k).length) (by omega) (by omega)
   have hLl := zBo (zEE sp) A4 (b.stack.drop k) i
   have hge := zAJ hx
   obtain ⟨r, v, c⟩ := x
   simp only at hge
   have hva := zEU false sp (r, v, c)
   have hre := zJn (r, v, c)
   obtain ⟨u, hu'⟩ : ∃ u, zCl sp (r, v, c) = u := ⟨_, rfl⟩
   obtain ⟨w, hw⟩ : ∃ u, zFM (r, v, c) = u := ⟨_, rfl⟩
   rw [hu'] at hva
   rw [hw] at hre
   simp only [spF] at hva hre
   rw [show zBZ sp (r, v, c) = [w, c, u] by rw [← hu', ← hw]; rfl] at hst
   obtain ⟨L, hL⟩ : ∃ L, pre A4 (b.stack.drop k) (zBZ sp) i = L := ⟨_, rfl⟩
   rw [hL] at hst hLl ⊢
   have hLb : L.length ≤ 700 := by omega
   have hbq : Nat.beq gg gg = true := Nat.beq_refl gg
   have hlC : (zY L).length = L.length := zZ L
   have htk := zAM (L := L) rfl
   repeat' first | (with_reducible first | refine zA ?_ | refine zB ?_ | refine zO ?_ | refine zJ ?_ | refine zG ?_) | ((with_reducible refine And.intro ?_ ?_); · exact Sq) | ((first | with_reducible refine zC fun KC J hJ hKC => ?_ | with_reducible refine zU rfl fun KC J hJ hKC => ?_ | (refine hKC _ _ _ _ _ (zD (hva) rfl rfl rfl ?_ ?_); (· exact Lq)) | (refine hKC _ _ _ _ _ (zD (hre) rfl rfl rfl ?_ ?_); (· exact Lq))); simp (maxSteps := 9999999) only [push_cast, seval, ↓reduceIte, hlt, hge, hwn, hbq, hlC, htk, Nat.mul_one]) | ((first | with_reducible refine hJ _ _ ?_ | (with_reducible refine hJ _ _ ?_ ?_; · kernel_rfl)); clear hJ hKC KC J) | ((with_reducible refine zF ?_ ?_); · rfl)
   refine ⟨⟨(i + 1, gg + 1), by simp only; omega⟩, by simp only; omega, ?_, ?_⟩
   ·simp only [hst, List.length_append, List.length_cons, List.length_nil]
    exact Lq
   ·simp only [hst, zAB]
    exact ⟨_, rfl⟩
  have hin : i = (b.stack.drop k).length := by omega
  have lA5 := zBo (zEE sp) A4 (b.stack.drop k) i
  rw [zDF hin] at lA5 ⊢
  obtain ⟨A5, hA5⟩ : ∃ l, A4 ++ (b.stack.drop k).flatMap (zBZ sp) = l := ⟨_, rfl⟩
  rw [hA5] at lA5 ⊢
  obtain ⟨A6, hA6⟩ : ∃ l, A5 ++ [b.v] = l := ⟨_, rfl⟩
  have lA6 : A6.length = A5.length + 1 := by rw [← hA6]; simp
  have cA6 : zY A5 ++ [.v (.int .i64 b.v)] = zY A6 := by rw [← hA6, zAB]; rfl
  rw [hA6]
  have lB6 : A6.length ≤ 800 := by omega
  have hun := zKK f g ns us o hu hul ho
  have hon := fun i x => zLN (us := us) (o := o) hbL hbh (i := i) (x := x)
  have hat := zJe hbL hbh
  obtain ⟨N, hN⟩ : ∃ n, zDR us o b.l = n := ⟨_, rfl⟩
  obtain ⟨U, hU⟩ : ∃ l, zBp us o = l := ⟨_, rfl⟩
  rw [hU] at hun hat
  rw [hU, hN] at hon
  rw [hN] at hat ⊢
  have lU : U.length ≤ 100 := by rw [← hU]; exact Nat.le_trans (zNm us o us.length) hul
  have hUl : (zK U).length = U.length := by simp [zK]
  have hbq : Nat.beq gg gg = true := Nat.beq_refl gg
  have hlC : (zY A5).length = A5.length := zZ A5
  have htk := zAM (L := A5) rfl
  repeat' first | (with_reducible first | refine zA ?_ | refine zB ?_ | refine zX ?_ | refine zW ?_ | refine zQ ?_ | refine zG ?_) | ((with_reducible refine And.intro ?_ ?_); · exact Sq) | ((first | with_reducible refine zC fun KC J hJ hKC => ?_ | (refine hKC _ _ _ _ _ (zD (hun) rfl rfl rfl ?_ ?_); (· exact Lq))); simp (maxSteps := 9999999) only [push_cast, seval, ↓reduceIte, hlt, Int.lt_irrefl, hbq, hlC, htk, Nat.mul_one, cA6, lA6.symm, hUl]) | ((with_reducible refine hJ _ _ ?_); clear hJ hKC KC J) | ((with_reducible refine zH ?_ ?_); · rfl)
  refine zi 11 (γ := {p : Nat × Nat // p.1 ≤ U.length}) (fun p => ⟨[.any, .any, .v (.int .i64 (o : Int)), .any, .any, .ptr 0 0 0, .ptr 1 0 0, .any, .ptr 2 0 0, .ptr 3 0 0, .any, .ref 4 p.1.2 (jN A6 N p.1.1).length, .any, .any, .any, .any, .any, .any, .any, .any, .any, .any, .any, .any, .any, .any, .any, .any, .any, .any, .any, .any, .any, .any, .any, .any, .any, .any, .any, .any, .any, .any, .any, .any, .any, .any, .any, .any, .any, .any, .any, .any, .any, .any, .any, .any, .any, .any, .any, .any, .any, .any, .any, .any, .any, .any, .any, .any, .any, .any, .any, .any, .any, .any, .any, .any, .any, .any, .any, .any, .any, .any, .any, .any, .any, .any, .any, .any, .any, .any, .any, .any, .any, .any, .any, .any, .any, .any, .any, .any, .any, .any, .any, .any, .any, .any, .any, .any, .any, .any, .any, .any, .any, .any, .any, .any, .any, .any, .any, .any, .any, .any, .any, .any, .any, .any, .any, .any, .any, .any, .any, .any, .any, .any, .any, .any, .sl false 1 (zK U), .v (.int .i64 U.length), .v (.int .i64 p.1.1), .any, .any, .any, .any, .any, .any, .any, .any, .any, .any, .any, .any, .any, .any, .any], [.ent ⟨0, none, 25, [.sl f 1 (zM ns), .sl g 1 (zL us)], .cells⟩, .ent ⟨0, none, 28, [.v (.int .i64 sp.code), .v (.int .i64 sp.mem), .v (.int .i64 sp.stack), .v (.int .i64 sp.val), .sl false 1 (zK sp.ws)], .cells⟩, .ent ⟨0, none, 39, [.v (.int .i64 a.v), .v (.int .i64 a.l), .sl false 3 (zh a.code), .sl false 2 (zR a.mem), .sl false 3 (zc a.stack), .sl false 2 (zR a.out)], .cells⟩, .ent ⟨0, none, 39, [.v (.int .i64 b.v), .v (.int .i64 b.l), .sl false 3 (zh b.code), .sl false 2 (zR b.mem), .sl false 3 (zc b.stack), .sl false 2 (zR b.out)], .cells⟩, .ent ⟨p.1.2, some 1, 3, zY (jN A6 N p.1.1), .cells⟩, .free, .free, .free, .dead, .free, .dead]⟩) (fun p => U.length - p.1.1) ⟨(0, gg + 1), by omega⟩ (fun p => rfl) (fun p => ?_) (fun p => rfl) ⟨?_, ?_⟩ ?_
  ·refine zr ?_
   simp only [List.map_cons, List.map_nil, zx, zAL]
   rfl
  ·simp only [zNX]
   exact Lq
  ·simp only [zNX]
   exact Fq
  rintro ⟨⟨i, gj⟩, hi⟩
  dsimp only at hi ⊢
  have hjl := zSg A6 N i
  by_cases hlt : (i : Int) < (U.length : Int)
  ·have hx : U[i]? = some U[i] := List.getElem?_eq_getElem (by omega)
   obtain ⟨x, hx0⟩ : ∃ x, U[i] = x := ⟨_, rfl⟩
   rw [hx0] at hx
   have hwn := zb (i := i) (n := U.length) (by omega) (by omega)
   have hge := zo hx
   have hor := hon i x hx
   by_cases hxe : x = b.l
   ·have hxe' : (x == b.l) = true := by simpa using hxe
    have hst := zTB A6 (hor.1 hxe)
    obtain ⟨L, hL⟩ : ∃ L, jN A6 N i = L := ⟨_, rfl⟩
    rw [hL] at hst hjl ⊢
    have hLb : L.length ≤ 801 := by omega
    have hbq : Nat.beq gj gj = true := Nat.beq_refl gj
    have hlC : (zY L).length = L.length := zZ L
    have htk := zAM (L := L) rfl
    repeat' first | (with_reducible first | refine zA ?_ | refine zB ?_ | refine zO ?_ | refine zJ ?_ | refine zG ?_) | ((with_reducible refine And.intro ?_ ?_); · exact Sq) | ((with_reducible refine zC fun KC J hJ hKC => ?_); simp (maxSteps := 9999999) only [push_cast, seval, ↓reduceIte, hlt, hge, hwn, hbq, hlC, htk, Nat.mul_one, hxe']) | ((with_reducible refine hJ _ _ ?_); clear hJ hKC KC J) | ((with_reducible refine zF ?_ ?_); · rfl)
    refine ⟨⟨(i + 1, gj + 1), by simp only; omega⟩, by simp only; omega, ?_, ?_⟩
    ·simp only [hst, List.length_append, List.length_cons, List.length_nil]
     exact Lq
    ·simp only [hst, zAB]
     exact ⟨_, rfl⟩
   ·have hxe' : (x == b.l) = false := by simpa using hxe
    have hst := zSp A6 (fun h => hxe (hor.2 h))
    obtain ⟨L, hL⟩ : ∃ L, jN A6 N i = L := ⟨_, rfl⟩
    rw [hL] at hst ⊢
    repeat' first | (with_reducible first | refine zA ?_ | refine zB ?_ | refine zO ?_ | refine zJ ?_ | refine zG ?_) | ((with_reducible refine And.intro ?_ ?_); · exact Sq) | ((with_reducible refine zC fun KC J hJ hKC => ?_); simp (maxSteps := 9999999) only [push_cast, seval, ↓reduceIte, hlt, hge, hwn, hxe']) | ((with_reducible refine hJ _ _ ?_); clear hJ hKC KC J) | ((with_reducible refine zF ?_ ?_); · rfl) | ((with_reducible refine zH ?_ ?_); · rfl)
    refine ⟨⟨(i + 1, gj), by simp only; omega⟩, by simp only; omega, ?_, ?_⟩
    ·simp only [hst]
     exact Lq
    ·simp only [hst]
     exact ⟨_, rfl⟩
  have hin : i = U.length := by omega
  have hst : jN A6 N i = A6 ++ [(N : Int)] := by unfold jN; rw [if_pos (by omega)]
  rw [hst]
  obtain ⟨A7, hA7⟩ : ∃ l, A6 ++ [(N : Int)] = l := ⟨_, rfl⟩
  rw [hA7, show emD A7 = .sl false 1 (zK A7) from if_neg (by rw [← hA7]; simp)]
  have hlC : (zY A7).length = A7.length := zZ A7
  have hcp : zBF 1 A7.length (zY A7) = zK A7 := zBn A7
  have hbq : Nat.beq gj gj = true := Nat.beq_refl gj
  repeat' first | (with_reducible first | refine zA ?_ | refine zB ?_ | refine zX ?_ | refine zW ?_ | refine zQ ?_) | ((with_reducible refine zC fun KC J hJ hKC => ?_); simp (maxSteps := 9999999) only [push_cast, seval, ↓reduceIte, hlt, Int.lt_irrefl, hbq]) | ((with_reducible refine hJ _ _ ?_); clear hJ hKC KC J) | ((with_reducible refine zH ?_ ?_); · rfl)
  refine zt 4 rfl (by simp (maxSteps := 9999999) only [push_cast, seval, ↓reduceIte]) ?_
  simp (maxSteps := 9999999) only [push_cast, seval, ↓reduceIte, zAH, zd, fr3, fr2, fr1, fr0, zl, zj, hbq, hlC, hcp, Nat.mul_one]
  refine zI ?_
  refine zE ?_
  simp (maxSteps := 9999999) only [push_cast, seval, ↓reduceIte, show Tryz.f42.results = #[(.tmp 10)] from rfl]
  exact Lq
theorem zKU (f g : Bool) (ns : List ByteArray) (us : List Nat) (sp : Sp) (o : Nat) (a b : Sta) (hu : U32 us) (hul : us.length ≤ 100) (ho : o ≤ 1000) (hal : hid us o a.l = true → hid us o b.l = true) (hab : VIn2 us.length a b) :
  Fn Tryz.prog 42 [.agg [.sl f 1 (zM ns), .sl g 1 (zL us)], .agg (spF false sp), .v (.int .i64 (o : Int)), .agg (zAN false false false false a), .agg (zAN false false false false b)] [] (.sl false 1 (zK (zAa sp us o a b))) [] :=
 (zJK f g ns us sp o a b hu hul ho hal hab).post (zNe _)
def v1R (q : VQ) (r l : Int) (m : M3) : M3 × (Bool × Int × Int) := (zNC q (decide (r = 1) && hid q.us q.o l) m, (decide (r = 1) && hid q.us q.o l, (zNC q (decide (r = 1) && hid q.us q.o l) m).2.1, l))
section
attribute [local irreducible] v1R zPS zNC vVC zRt hid Cp.bind
end
end Go.Proofs.YtabliglgeiajlaaGreat.AM
