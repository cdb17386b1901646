/- Walks and plain laws, put together: part 4. -/
import Derived.Test.YtabliglgeiajlaaGreatUnpickLeastG3
import Derived.Test.YtabliglgeiajlaaGreatUnpickLeastG1
import Derived.Test.YtabliglgeiajlaaGreatUnpickLeastG2
import Derived.Test.YtabliglgeiajlaaGreatUnpickLeastG0
import Derived.Test.YtabliglgeiajlaaGreatMc
set_option linter.unusedSimpArgs false
set_option linter.unusedVariables false
namespace Go.Proofs.YtabliglgeiajlaaGreat.AM
open Go Go.RowKit Go.Proofs
set_option maxRecDepth 100000
set_option maxHeartbeats 4000000
def zEX (ns : List ByteArray) (us : List Nat) (sp : Sp) (o : Int) (d : Dr) : Dr × Sta × Sta × Int :=
 if (zCO ns us sp d).2.2 = 0 then
  if (zBu ns us sp o (zCO ns us sp d).2.1 (zCO ns us sp d).1).2.2 = 0 then ((zBu ns us sp o (zCO ns us sp d).2.1 (zCO ns us sp d).1).1, (zCO ns us sp d).2.1, (zBu ns us sp o (zCO ns us sp d).2.1 (zCO ns us sp d).1).2.1, 0)
  else (Dr.z, Sta.z, Sta.z, (zBu ns us sp o (zCO ns us sp d).2.1 (zCO ns us sp d).1).2.2)
 else (Dr.z, Sta.z, Sta.z, (zCO ns us sp d).2.2)
theorem zPP (f g : Bool) (ns : List ByteArray) (us : List Nat) (sp : Sp) (o : Int) (d : Dr) (hs : Szs ns) (hu : U32 us) (hw : sp.ws.length ≤ 1000) (hg : (zCO ns us sp d).2.2 = 0 → Sml (zCO ns us sp d).2.1) :
  Fn Tryz.prog 45 [.agg [.sl f 1 (zS ns), .sl g 1 (zR us)], .agg (spF false sp), .v (.int .i64 o), zBK false false d] [] (.tup [zBK false false (zEX ns us sp o d).1, .agg (zAT false false false false (zEX ns us sp o d).2.1), .agg (zAT false false false false (zEX ns us sp o d).2.2.1), .v (.int .i64 (zEX ns us sp o d).2.2.2)]) [] := by
 have h1 := zMV f g ns us sp d hs hu hw
 unfold zEX
 obtain ⟨⟨d1, s, e⟩, hG⟩ : ∃ r, zCO ns us sp d = r := ⟨_, rfl⟩
 rw [hG] at h1 hg ⊢
 simp only at h1 hg ⊢
 by_cases e0 : e = 0
 ·have h2 := zTq f g ns us sp o s d1 hs hu hw (hg e0)
  subst e0
  obtain ⟨⟨d2, t, e2⟩, hV⟩ : ∃ r, zBu ns us sp o s d1 = r := ⟨_, rfl⟩
  rw [hV] at h2 ⊢
  rw [if_pos rfl]
  simp only [spF, zBK, zAT] at h1 h2 ⊢
  by_cases e3 : e2 = 0
  ·subst e3
   rw [if_pos rfl]
   refine Fn.of (fn := Tryz.f45) (by kernel_rfl) rfl (by kernel_rfl) ⟨[.agg [.sl f 1 (zS ns), .sl g 1 (zR us)], .agg [.v (.int .i64 sp.code), .v (.int .i64 sp.mem), .v (.int .i64 sp.stack), .v (.int .i64 sp.val), .sl false 1 (zM sp.ws)], .v (.int .i64 o), .agg [.sl false 1 (zM d.l), .v (.int .i64 d.a), .sl false 1 (zM d.g)], .v undef, .v undef, .v undef, .v undef, .v undef, .v undef, .v undef, .v undef, .v undef, .v undef, .v undef, .v undef, .v undef, .v undef, .v undef, .v undef, .v undef, .v undef, .v undef, .v undef, .v undef, .v undef, .v undef, .v undef, .v undef, .v undef, .v undef, .v undef, .v undef, .v undef, .v undef, .v undef, .v undef, .v undef, .v undef, .v undef, .v undef, .v undef, .v undef, .v undef, .v undef, .v undef, .v undef, .v undef], []⟩ rfl ?_
   repeat' first | (with_reducible first | refine zA ?_ | refine zB ?_ | refine zF ?_ | refine zJ ?_) | ((first | with_reducible refine zC fun KC J hJ hKC => ?_ | with_reducible refine zY rfl fun KC J hJ hKC => ?_ | (refine hKC _ _ _ _ _ (zE (h1) rfl rfl rfl ?_ ?_); (· exact Lq)) | (refine hKC _ _ _ _ _ (zE (h2) rfl rfl rfl ?_ ?_); (· exact Lq))); simp (maxSteps := 9999999) only [push_cast, seval, ↓reduceIte, bne_self_eq_false]) | ((first | with_reducible refine hJ _ _ ?_ | (with_reducible refine hJ _ _ ?_ ?_; · kernel_rfl)); clear hJ hKC KC J) | ((with_reducible refine zI ?_ ?_); · rfl)
   refine zD ?_
   simp (maxSteps := 9999999) only [push_cast, seval, ↓reduceIte, show Tryz.f45.results = #[(.cell 8 30), (.cell 9 39), (.cell 10 39), (.tmp 11)] from rfl]
   exact Lq
  ·have e3' : (e2 != 0) = true := by simpa using e3
   rw [if_neg e3]
   refine Fn.of (fn := Tryz.f45) (by kernel_rfl) rfl (by kernel_rfl) ⟨[.agg [.sl f 1 (zS ns), .sl g 1 (zR us)], .agg [.v (.int .i64 sp.code), .v (.int .i64 sp.mem), .v (.int .i64 sp.stack), .v (.int .i64 sp.val), .sl false 1 (zM sp.ws)], .v (.int .i64 o), .agg [.sl false 1 (zM d.l), .v (.int .i64 d.a), .sl false 1 (zM d.g)], .v undef, .v undef, .v undef, .v undef, .v undef, .v undef, .v undef, .v undef, .v undef, .v undef, .v undef, .v undef, .v undef, .v undef, .v undef, .v undef, .v undef, .v undef, .v undef, .v undef, .v undef, .v undef, .v undef, .v undef, .v undef, .v undef, .v undef, .v undef, .v undef, .v undef, .v undef, .v undef, .v undef, .v undef, .v undef, .v undef, .v undef, .v undef, .v undef, .v undef, .v undef, .v undef, .v undef, .v undef], []⟩ rfl ?_
   repeat' first | (with_reducible first | refine zA ?_ | refine zB ?_ | refine zb ?_ | refine zF ?_ | refine zJ ?_) | ((first | with_reducible refine zC fun KC J hJ hKC => ?_ | (refine hKC _ _ _ _ _ (zE (h1) rfl rfl rfl ?_ ?_); (· exact Lq)) | (refine hKC _ _ _ _ _ (zE (h2) rfl rfl rfl ?_ ?_); (· exact Lq))); simp (maxSteps := 9999999) only [push_cast, seval, ↓reduceIte, bne_self_eq_false, e3']) | ((with_reducible refine hJ _ _ ?_); clear hJ hKC KC J) | ((with_reducible refine zG ?_ ?_); · rfl) | ((with_reducible refine zI ?_ ?_); · rfl)
   refine zD ?_
   simp (maxSteps := 9999999) only [push_cast, seval, ↓reduceIte, show Tryz.f45.results = #[(.cell 8 30), (.cell 9 39), (.cell 10 39), (.tmp 11)] from rfl]
   exact Lq
 ·have e0' : (e != 0) = true := by simpa using e0
  rw [if_neg e0]
  simp only [spF, zBK, zAT] at h1 ⊢
  refine Fn.of (fn := Tryz.f45) (by kernel_rfl) rfl (by kernel_rfl) ⟨[.agg [.sl f 1 (zS ns), .sl g 1 (zR us)], .agg [.v (.int .i64 sp.code), .v (.int .i64 sp.mem), .v (.int .i64 sp.stack), .v (.int .i64 sp.val), .sl false 1 (zM sp.ws)], .v (.int .i64 o), .agg [.sl false 1 (zM d.l), .v (.int .i64 d.a), .sl false 1 (zM d.g)], .v undef, .v undef, .v undef, .v undef, .v undef, .v undef, .v undef, .v undef, .v undef, .v undef, .v undef, .v undef, .v undef, .v undef, .v undef, .v undef, .v undef, .v undef, .v undef, .v undef, .v undef, .v undef, .v undef, .v undef, .v undef, .v undef, .v undef, .v undef, .v undef, .v undef, .v undef, .v undef, .v undef, .v undef, .v undef, .v undef, .v undef, .v undef, .v undef, .v undef, .v undef, .v undef, .v undef, .v undef], []⟩ rfl ?_
  repeat' first | (with_reducible first | refine zA ?_ | refine zB ?_ | refine zb ?_ | refine zF ?_) | ((first | with_reducible refine zC fun KC J hJ hKC => ?_ | (refine hKC _ _ _ _ _ (zE (h1) rfl rfl rfl ?_ ?_); (· exact Lq))); simp (maxSteps := 9999999) only [push_cast, seval, ↓reduceIte, e0']) | ((with_reducible refine hJ _ _ ?_); clear hJ hKC KC J) | ((with_reducible refine zG ?_ ?_); · rfl)
  refine zD ?_
  simp (maxSteps := 9999999) only [push_cast, seval, ↓reduceIte, show Tryz.f45.results = #[(.cell 8 30), (.cell 9 39), (.cell 10 39), (.tmp 11)] from rfl]
  exact Lq
theorem zIX {n : Nat} {sp : Sp} {s : Sta} (h : zEV n sp s = true) : Sml15 s := by
 simp only [zEV, zIp, zFm, Bool.and_eq_true, decide_eq_true_eq] at h
 obtain ⟨⟨⟨_, h1⟩, _, _, _, h2, _, h3, _, h4⟩, _⟩ := h
 exact ⟨by omega, by omega, by omega, by omega⟩
theorem zGc {ns : List ByteArray} {us : List Nat} {sp : Sp} (hm : zCQ ns us sp = 0) : zAB ns us = 0 ∧ SpOk sp := by
 unfold zCQ at hm
 split at hm
 ·rename_i hc
  split at hm
  ·rename_i hsp; exact ⟨hc, zIG.1 hsp⟩
  ·cases hm
 ·rename_i hc; exact absurd hm hc
theorem zHx {n : Nat} {sp : Sp} (hsp : SpOk sp) (d : Dr) : (∃ e, e ≠ 0 ∧ (zGd n sp).run d = .error e) ∨ ∃ d' s cs, (zGd n sp).run d = .ok (d', s) ∧ zEV n sp s = true ∧ (zGd n sp).path cs = some s ∧ d'.l = d.l ∧ d'.g = d.g ++ cs ∧ cs.length ≤ 89 := by
 have hi := (zRU n sp).1 d 0
 cases hr : (zGd n sp).run d with
 | error e => rw [hr] at hi; exact .inl ⟨e, hi.1, rfl⟩
 | ok r =>
  obtain ⟨d', s⟩ := r
  obtain ⟨cs, h1, h2, h3⟩ := Cp.run_path _ hr
  exact .inr ⟨d', s, cs, rfl, Cp.all_path _ (zGM hsp) h1, h1, h3, h2, Cp.path_deep _ (zMj hsp) h1⟩
theorem zNx {ns : List ByteArray} {us : List Nat} {sp : Sp} {d : Dr} (hl : d.l.length ≤ 1000) (hg : d.g.length ≤ 3000) : Sml15 (zCO ns us sp d).2.1 ∧ (zCO ns us sp d).1.l.length ≤ 4000 ∧ (zCO ns us sp d).1.g.length ≤ 4000 := by
 have z : Sml15 Sta.z := ⟨by decide, by decide, by decide, by decide⟩
 have zz : Sml15 Sta.z ∧ Dr.z.l.length ≤ 4000 ∧ Dr.z.g.length ≤ 4000 := ⟨z, by decide, by decide⟩
 unfold zCO
 split
 ·rename_i hm
  split
  ·rcases zHx (zGc hm).2 (n := us.length) d with ⟨e, _, hr⟩ | ⟨d', s, cs, hr, hb, _, h1, h2, h3⟩
   ·rw [hr]; exact zz
   ·rw [hr]
    refine ⟨zIX hb, ?_, ?_⟩
    ·show d'.l.length ≤ 4000; rw [h1]; omega
    ·show d'.g.length ≤ 4000; rw [h2, List.length_append]; omega
  ·exact zz
 ·exact zz
def zTy (sp : Sp) : Sp := { sp with ws := sp.ws.take 16 }
theorem zPS {α : Type} (c : Cp α) {d d' : Dr} {x : α} (h : c.run d = .ok (d', x)) (hr : zAg d.l d.g d.a = true) : zAg d'.l d'.g d'.a = true := by
 induction c generalizing d with
 | ret z => simp only [Cp.run, Except.ok.injEq, Prod.mk.injEq] at h; obtain ⟨rfl, rfl⟩ := h; exact hr
 | bad e => simp [Cp.run] at h
 | take b k ih =>
  simp only [Cp.run] at h
  split at h
  ·rename_i h0
   obtain ⟨h1, h2, h3, h4, h5, h6, h7⟩ := Cp.takeF_ok h0
   refine ih _ h ?_
   rw [h6]
   simp only [zAg, Bool.and_eq_true, decide_eq_true_eq, List.length_append, List.length_cons, List.length_nil] at hr ⊢
   split <;> omega
  ·cases h
theorem zTV (sp : Sp) (us : List Nat) (o : Nat) (x : Int × Int × Int) : Cp.Deep 1 (vIC sp us o x) := by
 unfold vIC; split
 ·exact Cp.deep_bind (n := 1) (m := 0) _ _ (zEK _) (Cp.all_true _) fun v _ => trivial
 ·exact zFN _ _
theorem zTG (sp : Sp) (us : List Nat) (o : Nat) (x : Int × Int) : Cp.Deep 1 (vAC sp us o x) := by
 unfold vAC; split
 ·exact Cp.deep_bind (n := 1) (m := 0) _ _ (zEK _) (Cp.all_true _) fun v _ => trivial
 ·exact zFN _ _
theorem zPN (sp : Sp) (r : Bool) : Cp.Deep 1 (vVC sp r) := by
 unfold vVC; split
 ·exact zBM _
 ·exact zEK _
theorem zOs (sp : Sp) (us : List Nat) (o : Nat) (x : Bool × Int × Int) : Cp.Deep 1 (vSC sp us o x) := by
 unfold vSC; split
 ·exact Cp.deep_bind (n := 1) (m := 0) _ _ (zPN _ _) (Cp.all_true _) fun v _ => trivial
 ·exact zFN _ _
theorem zTj (sp : Sp) (us : List Nat) (o : Nat) : Cp.Deep 3 (v1C sp us o) :=
 Cp.deep_bind (n := 1) (m := 2) _ _ (zBM _) (Cp.all_true _) fun r _ => Cp.deep_bind (n := 1) (m := 1) _ _ (zBM _) (Cp.all_true _) fun l _ => Cp.deep_bind (n := 1) (m := 0) _ _ (zPN _ _) (Cp.all_true _) fun v _ => trivial
theorem zPw {sp : Sp} (h : SpOk sp) (us : List Nat) (o : Nat) (k : List (Bool × Int × Int)) : Cp.Deep 37 (zKJ sp us o k) := by
 have h1 := h.s1
 unfold zKJ zCN
 intro j h0 h2
 show Cp.Deep 36 (((v1C sp us o).times j.toNat).bind fun t => .ret (k ++ t))
 exact Cp.deep_mono _ (Cp.deep_bind (n := j.toNat * 3) (m := 0) _ _ (Cp.deep_times (zTj sp us o) j.toNat) (Cp.all_true _) fun t _ => trivial) (by omega)
theorem zQD {sp : Sp} (h : SpOk sp) {us : List Nat} {o : Nat} {s : Sta} (hs : InSp us.length sp s) : Cp.Deep 69 (zDT sp us o s) := by
 have c1 := h.c1
 have m1 := h.m1
 have s1 := h.s1
 have c2 := hs.cl
 have m2 := hs.ml
 have s2 := hs.sl
 have s3 : (zt us o s.stack).length ≤ s.stack.length := by unfold zt; rw [List.length_take]; omega
 refine Cp.deep_bind (n := 12) (m := 57) _ _ (Cp.deep_mono _ (Cp.deep_map (zTV sp us o) _) (by omega)) (Cp.all_true _) fun c _ => Cp.deep_bind (n := 6) (m := 51) _ _ (Cp.deep_mono _ (Cp.deep_map (zTG sp us o) _) (by omega)) (Cp.all_true _) fun m _ => ?_
 split
 ·exact Cp.deep_bind (n := 12) (m := 39) _ _ (Cp.deep_mono _ (Cp.deep_map (zOs sp us o) _) (by omega)) (Cp.all_true _) fun k _ => Cp.deep_bind (n := 37) (m := 2) _ _ (zPw h us o k) (Cp.all_true _) fun t _ =>
   Cp.deep_bind (n := 1) (m := 1) _ _ (zBM _) (Cp.all_true _) fun v _ => Cp.deep_bind (n := 1) (m := 0) _ _ (zBM _) (Cp.all_true _) fun n _ => trivial
 ·exact Cp.deep_mono _ (Cp.deep_bind (n := 12) (m := 0) _ _ (Cp.deep_mono _ (Cp.deep_map (zOs sp us o) _) (by omega)) (Cp.all_true _) fun k _ => trivial) (by omega)
def zFD (sp : Sp) (us : List Nat) (o : Nat) : Cp (Sta × Sta) := (zGd us.length sp).bind fun a => (zDT sp us o a).bind fun b => .ret (a, b)
theorem zPi {sp : Sp} (h : SpOk sp) (us : List Nat) (o : Nat) : (zFD sp us o).All fun x => InSp us.length sp x.1 ∧ InSp us.length sp x.2 ∧ zCE us o x.1 x.2 = true :=
 Cp.all_bind _ _ (zGM h) fun a ha => Cp.all_bind _ _ (zQN h ((zCk h).1 ha)) fun b hb => ⟨(zCk h).1 ha, hb.1, hb.2⟩
theorem zLD {sp : Sp} (h : SpOk sp) (us : List Nat) (o : Nat) : Cp.Deep 158 (zFD sp us o) :=
 Cp.deep_bind (n := 89) (m := 69) _ _ (zMj h) (zGM h) fun a ha => Cp.deep_bind (n := 69) (m := 0) _ _ (zQD h ((zCk h).1 ha)) (Cp.all_true _) fun b _ => trivial
theorem zPG (sp : Sp) (us : List Nat) (o : Nat) (s : Sta) (d : Dr) {e : Int} (h : (zDT sp us o s).run d = .error e) : e ≠ 0 := by
 have hi := (zMK ⟨true, true, [], us, sp, o⟩ s).1 d 0
 simp only [h] at hi
 exact hi.1
theorem zRq {sp : Sp} (h : SpOk sp) (us : List Nat) (o : Nat) (d : Dr) {e : Int} (hr : (zFD sp us o).run d = .error e) : e ≠ 0 := by
 unfold zFD at hr
 rw [Cp.run_bind] at hr
 rcases zHx h (n := us.length) d with ⟨e2, he, h1⟩ | ⟨d', s, cs, h1, _⟩
 ·rw [h1] at hr; cases hr; exact he
 ·rw [h1] at hr
  simp only [Cp.run_bind] at hr
  cases hv : (zDT sp us o s).run d' with
  | error e2 => rw [hv] at hr; cases hr; exact zPG _ _ _ _ _ hv
  | ok y => rw [hv] at hr; cases hr
def zUh (r : Except Int (Dr × Sta × Sta)) : Dr × Sta × Sta × Int := match r with | .ok (d, a, b) => (d, a, b, 0) | .error e => (Dr.z, Sta.z, Sta.z, e)
theorem zKX {ns : List ByteArray} {us : List Nat} {sp : Sp} {o : Nat} (hm : zCQ ns us sp = 0) (ho : zv us.length (o : Int) = false) {l : List Int} (hl : l.length ≤ 500) :
  zEX ns us sp (o : Int) ⟨l, 0, []⟩ = zUh ((zFD sp us o).run ⟨l, 0, []⟩) := by
 have hr : zAg l [] 0 = true := by simp [zAg]; omega
 have hsp := (zGc hm).2
 have hg : zCO ns us sp ⟨l, 0, []⟩ = zQi Sta.z ((zGd us.length sp).run ⟨l, 0, []⟩) := by unfold zCO; rw [if_pos hm, if_pos hr]
 unfold zEX zFD
 rw [Cp.run_bind]
 rcases zHx hsp (n := us.length) ⟨l, 0, []⟩ with ⟨e, he, h1⟩ | ⟨d', s, cs, h1, hb, _⟩
 ·have hg2 : zCO ns us sp ⟨l, 0, []⟩ = (Dr.z, Sta.z, e) := by rw [hg, h1]; rfl
  rw [hg2, h1]
  exact if_neg he
 ·have hg2 : zCO ns us sp ⟨l, 0, []⟩ = (d', s, 0) := by rw [hg, h1]; rfl
  rw [hg2, h1]
  have hr2 := zPS _ h1 hr
  have hv : zBu ns us sp (o : Int) s d' = zQi Sta.z ((zDT sp us o s).run d') := by
   unfold zBu; rw [if_pos hm, if_pos hb, if_pos ho, if_pos hr2, Int.toNat_natCast]
  refine (if_pos rfl).trans ?_
  show (if (zBu ns us sp (o : Int) s d').2.2 = 0 then ((zBu ns us sp (o : Int) s d').1, s, (zBu ns us sp (o : Int) s d').2.1, 0) else (Dr.z, Sta.z, Sta.z, (zBu ns us sp (o : Int) s d').2.2)) = zUh (((zDT sp us o s).bind fun b => Cp.ret (s, b)).run d')
  rw [Cp.run_bind]
  cases hq : (zDT sp us o s).run d' with
  | error e =>
   have hv2 : zBu ns us sp (o : Int) s d' = (Dr.z, Sta.z, e) := by rw [hv, hq]; rfl
   rw [hv2]
   exact if_neg (zPG _ _ _ _ _ hq)
  | ok y =>
   have hv2 : zBu ns us sp (o : Int) s d' = (y.1, y.2, 0) := by rw [hv, hq]; rfl
   rw [hv2]
   exact if_pos rfl
theorem zKS {n : Nat} (hn : 1 ≤ n) {sp : Sp} {s : Sta} (h : InSp n sp s) : zPX n s = true := by
 simp only [zPX, okL, Bool.and_eq_true, Bool.not_eq_true', List.all_eq_true, List.mem_map, forall_exists_index, and_imp, forall_apply_eq_imp_iff₂]
 refine ⟨fun x hx => ?_, fun x hx => ?_, fun x hx => ?_, fun x hx => ?_, h.l⟩
 ·have := (h.c x hx).1
  unfold zAm at this
  split at this
  ·simp only [Bool.and_eq_true, Bool.not_eq_true'] at this; exact this.2
  ·simp only [Bool.and_eq_true, decide_eq_true_eq] at this
   rw [this.2.1]; simp [zv]; omega
 ·have := (h.m x hx).1
  simp only [zBg, Bool.and_eq_true, Bool.not_eq_true'] at this
  exact this.2
 ·have := (h.s x hx).1
  simp only [zBI, Bool.and_eq_true, Bool.not_eq_true'] at this
  exact this.1
 ·rw [h.out] at hx; cases hx
theorem zSs {ns : List ByteArray} {us : List Nat} {sp : Sp} {o : Int} {l : List Int} (hl : l.length ≤ 500) (h : ¬ (zCQ ns us sp = 0 ∧ zv us.length o = false)) : ∃ e, e ≠ 0 ∧ zEX ns us sp o ⟨l, 0, []⟩ = (Dr.z, Sta.z, Sta.z, e) := by
 have hr : zAg l [] 0 = true := by simp [zAg]; omega
 by_cases hm : zCQ ns us sp = 0
 case neg =>
  refine ⟨zCQ ns us sp, hm, ?_⟩
  have hg : zCO ns us sp ⟨l, 0, []⟩ = (Dr.z, Sta.z, zCQ ns us sp) := by unfold zCO; rw [if_neg hm]
  unfold zEX
  rw [hg]
  exact if_neg hm
 have ho : ¬ zv us.length o = false := fun ho => h ⟨hm, ho⟩
 obtain ⟨hc, hsp⟩ := zGc hm
 have hg : zCO ns us sp ⟨l, 0, []⟩ = zQi Sta.z ((zGd us.length sp).run ⟨l, 0, []⟩) := by unfold zCO; rw [if_pos hm, if_pos hr]
 unfold zEX
 rcases zHx hsp (n := us.length) ⟨l, 0, []⟩ with ⟨e, he, h1⟩ | ⟨d', s, cs, h1, hb, _⟩
 ·refine ⟨e, he, ?_⟩
  have hg2 : zCO ns us sp ⟨l, 0, []⟩ = (Dr.z, Sta.z, e) := by rw [hg, h1]; rfl
  rw [hg2]
  exact if_neg he
 ·refine ⟨9, by decide, ?_⟩
  have hg2 : zCO ns us sp ⟨l, 0, []⟩ = (d', s, 0) := by rw [hg, h1]; rfl
  have hv : zBu ns us sp o s d' = (Dr.z, Sta.z, 9) := by
   unfold zBu; rw [if_pos hm, if_pos hb, if_neg ho]
  rw [hg2]
  refine (if_pos rfl).trans ?_
  show (if (zBu ns us sp o s d').2.2 = 0 then ((zBu ns us sp o s d').1, s, (zBu ns us sp o s d').2.1, 0) else (Dr.z, Sta.z, Sta.z, (zBu ns us sp o s d').2.2)) = _
  rw [hv]
  rfl
theorem zQw (f : Bool) (ws : List Int) (i : Int) (hb : ws.length ≤ 9223372036854775807) : Fn Tryz.prog 257 [.sl f 1 (zM ws), .v (.int .i64 i)] [] (.tup [.v (.int .i64 (zFw ws i).1), .v (.int .i64 (zFw ws i).2)]) [] := by
 refine Fn.of (fn := Tryz.f257) (by kernel_rfl) rfl (by kernel_rfl) ⟨[.sl f 1 (zM ws), .v (.int .i64 i), .v undef, .v undef, .v undef, .v undef, .v undef, .v undef, .v undef, .v undef, .v undef, .v undef, .v undef, .v undef, .v undef, .v undef, .v undef, .v undef, .v undef, .v undef, .v undef, .v undef, .v undef, .v undef, .v undef, .v undef, .v undef, .v undef, .v undef, .v undef, .v undef, .v undef, .v undef, .v undef, .v undef, .v undef, .v undef, .v undef, .v undef, .v undef, .v undef], []⟩ rfl ?_
 by_cases hw : zAe ws = true
 ·obtain ⟨h1, h2, h3, h4⟩ := zDE hw
  have hs : zFw ws i = if i < 0 ∨ ws.length ≤ i ∨ ws.getD i.toNat 0 = 0 then (0, 9) else ((ws.take i.toNat).sum, 0) := if_neg (by simp [hw])
  rw [hs]
  by_cases hi0 : i < 0
  ·skip
   repeat' first | (with_reducible first | refine zA ?_ | refine zB ?_ | refine zb ?_ | refine zAD ?_ | refine zF ?_ | refine zH ?_) | ((first | with_reducible refine zC fun KC J hJ hKC => ?_ | (refine' hKC _ _ _ _ _ (zE (zCU _ _ ?_) rfl rfl rfl ?_ ?_); (rotate_left 3); (· exact Lq); (rotate_left 1); (iterate 1 (· exact Hq)))); simp (maxSteps := 9999999) only [push_cast, seval, ↓reduceIte, hw, hi0]) | ((with_reducible refine hJ _ _ ?_); clear hJ hKC KC J) | ((with_reducible refine zG ?_ ?_); · rfl) | ((with_reducible refine zI ?_ ?_); · rfl)
   refine zD ?_
   simp (maxSteps := 9999999) only [push_cast, seval, ↓reduceIte, show Tryz.f257.results = #[(.cell 4 3), (.cell 5 40)] from rfl]
   rw [if_pos (.inl hi0)]
   exact Lq
  by_cases hi1 : (ws.length : Int) ≤ i
  ·skip
   repeat' first | (with_reducible first | refine zA ?_ | refine zB ?_ | refine zb ?_ | refine zAD ?_ | refine zF ?_ | refine zH ?_) | ((first | with_reducible refine zC fun KC J hJ hKC => ?_ | (refine' hKC _ _ _ _ _ (zE (zCU _ _ ?_) rfl rfl rfl ?_ ?_); (rotate_left 3); (· exact Lq); (rotate_left 1); (iterate 1 (· exact Hq)))); simp (maxSteps := 9999999) only [push_cast, seval, ↓reduceIte, hw, hi0, hi1]) | ((with_reducible refine hJ _ _ ?_); clear hJ hKC KC J) | ((with_reducible refine zG ?_ ?_); · rfl) | ((with_reducible refine zI ?_ ?_); · rfl)
   refine zD ?_
   simp (maxSteps := 9999999) only [push_cast, seval, ↓reduceIte, show Tryz.f257.results = #[(.cell 4 3), (.cell 5 40)] from rfl]
   rw [if_pos (.inr (.inl hi1))]
   exact Lq
  have hx : ws[i.toNat]? = some (ws.getD i.toNat 0) := by rw [List.getD_eq_getElem?_getD, List.getElem?_eq_getElem (by omega)]; rfl
  by_cases hi2 : ws.getD i.toNat 0 = 0
  ·have hx' := hx
   rw [hi2] at hx'
   repeat' first | (with_reducible first | refine zA ?_ | refine zB ?_ | refine zb ?_ | refine zAD ?_ | refine zF ?_ | refine zH ?_) | ((with_reducible refine And.intro ?_ ?_); · exact Sq) | ((first | with_reducible refine zC fun KC J hJ hKC => ?_ | (refine' hKC _ _ _ _ _ (zE (zCU _ _ ?_) rfl rfl rfl ?_ ?_); (rotate_left 3); (· exact Lq); (rotate_left 1); (iterate 1 (· exact Hq)))); simp (maxSteps := 9999999) only [push_cast, seval, ↓reduceIte, hw, hi0, hi1, zAV hx']) | ((with_reducible refine hJ _ _ ?_); clear hJ hKC KC J) | ((with_reducible refine zG ?_ ?_); · rfl) | ((with_reducible refine zI ?_ ?_); · rfl)
   refine zD ?_
   simp (maxSteps := 9999999) only [push_cast, seval, ↓reduceIte, show Tryz.f257.results = #[(.cell 4 3), (.cell 5 40)] from rfl]
   rw [if_pos (.inr (.inr hi2))]
   exact Lq
  have hi2' : (ws.getD i.toNat 0 == 0) = false := by simpa using hi2
  rw [if_neg (by omega)]
  repeat' first | (with_reducible first | refine zA ?_ | refine zB ?_ | refine zP ?_ | refine zJ ?_ | refine zH ?_) | ((with_reducible refine And.intro ?_ ?_); · exact Sq) | ((first | with_reducible refine zC fun KC J hJ hKC => ?_ | (refine' hKC _ _ _ _ _ (zE (zCU _ _ ?_) rfl rfl rfl ?_ ?_); (rotate_left 3); (· exact Lq); (rotate_left 1); (iterate 1 (· exact Hq))) | (refine' hKC _ _ _ _ _ (zE (zLR _ _) rfl rfl rfl ?_ ?_); (rotate_left 2); (· exact Lq))); simp (maxSteps := 9999999) only [push_cast, seval, ↓reduceIte, hw, hi0, hi1, zAV hx, hi2']) | ((with_reducible refine hJ _ _ ?_); clear hJ hKC KC J) | ((with_reducible refine zI ?_ ?_); · rfl)
  refine zLa ([.sl f 1 (zM ws), .v (.int .i64 i), .ptr 0 0 0, .ptr 1 0 0, .ptr 2 0 0, .ptr 3 0 0, .any, .any, .any, .any, .any, .any, .any, .any, .any, .any, .any, .any, .any, .any, .any, .any, .any, .any, .any, .any, .any, .any, .any, .fn 297 [.fad [.sl f 1 (zM ws)]], .any, .any, .any, .any, .any, .any, .any, .any, .any, .any, .any]) (by exact Lq) ?_
  refine zEc (f := 297) rfl rfl (zLX f ws h3 (by omega)) (fun i hi => rfl) 6 rfl rfl
   (fun _ => [.ent ⟨0, none, 26, [.sl f 1 (zM ws)], .cells⟩, .ent ⟨0, none, 3, [.v (.int .i64 i)], .cells⟩, .ent ⟨0, none, 3, [.v (.int .i64 0)], .cells⟩, .ent ⟨0, none, 40, [.v (.int .i64 0)], .cells⟩, .free, .free]) (fun _ => [.ent ⟨0, none, 26, [.sl f 1 (zM ws)], .cells⟩, .ent ⟨0, none, 3, [.v (.int .i64 i)], .cells⟩, .ent ⟨0, none, 3, [.v (.int .i64 (ws.take i.toNat).sum)], .cells⟩, .ent ⟨0, none, 40, [.v (.int .i64 0)], .cells⟩, .free, .free])
   rfl (fun i => ⟨rfl, rfl⟩) (fun i => ⟨rfl, rfl⟩) (fun i => ⟨rfl, rfl⟩) (fun k => decide (¬ (k : Int) = i)) .ret .ret rfl
   (fun k => [.sl f 1 (zM ws), .v (.int .i64 i), .ptr 0 0 0, .ptr 1 0 0, .ptr 2 0 0, .ptr 3 0 0, .v (.int .i64 (k : Int)), .v (.int .i64 (ws.take (k + 1)).sum), .any, .any, .any, .any, .any, .any, .any, .any, .any, .any, .any, .any, .any, .any, .any, .any, .any, .any, .any, .any, .any, .fn 297 [.fad [.sl f 1 (zM ws)]], .v (.int .i64 (k : Int)), .v (.int .i64 (ws.take (k + 1)).sum), .any, .any, .any, .any, .any, .any, .any, .any, .any])
   (fun l' k r σ hk => ?_) (fun i => rfl) (fun l' k hk hb' => ?_) (fun hall => ?_) (fun k hk hkf hkb => ?_)
  ·skip
   repeat' first | (with_reducible first | refine zA ?_ | refine zB ?_) | ((with_reducible refine And.intro ?_ ?_); · exact Sq) | ((with_reducible refine zC fun KC J hJ hKC => ?_); simp (maxSteps := 9999999) only [push_cast, seval, ↓reduceIte]) | ((with_reducible refine hJ _ _ ?_); clear hJ hKC KC J)
   exact rfl
  ·by_cases hki : (k : Int) = i
   ·have hk' : i.toNat = k := by omega
    have htk := zCP hk
    have hxk : ws.getD i.toNat 0 = ws[k] := by rw [hk']; simp [hk]
    have hbk := zDw h3 (k + 1)
    have hwk := h3 ws[k] (List.getElem_mem _)
    have hsub : IntKind.i64.wrap ((ws.take (k + 1)).sum - ws.getD i.toNat 0) = (ws.take i.toNat).sum := by rw [hxk, hk', zBq (by omega) (by omega)]; omega
    have hki' : ((k : Int) == i) = true := by simpa using hki
    repeat' first | (with_reducible first | refine zA ?_ | refine zB ?_ | refine zAD ?_ | refine zF ?_ | refine zH ?_) | ((with_reducible refine And.intro ?_ ?_); · exact Sq) | ((with_reducible refine zC fun KC J hJ hKC => ?_); simp (maxSteps := 9999999) only [push_cast, seval, ↓reduceIte, hki', zAV hx, hsub]) | ((with_reducible refine hJ _ _ ?_); clear hJ hKC KC J) | ((with_reducible refine zG ?_ ?_); · rfl)
    exact .inr ⟨by simp [hki], rfl, zO (k := 0) rfl rfl rfl⟩
   ·have hki' : ((k : Int) == i) = false := by simpa using hki
    repeat' first | (with_reducible first | refine zA ?_ | refine zB ?_ | refine zP ?_ | refine zJ ?_ | refine zH ?_) | ((with_reducible refine zC fun KC J hJ hKC => ?_); simp (maxSteps := 9999999) only [push_cast, seval, ↓reduceIte, hki']) | ((with_reducible refine hJ _ _ ?_); clear hJ hKC KC J) | ((with_reducible refine zI ?_ ?_); · rfl)
    exact .inl ⟨by simp [hki], rfl, zO (k := 0) rfl rfl rfl⟩
  ·have := hall i.toNat (by omega)
   simp at this
   omega
  ·skip
   repeat' first | (with_reducible first | refine zb ?_ | refine zAD ?_)
   refine zD ?_
   simp (maxSteps := 9999999) only [push_cast, seval, ↓reduceIte, show Tryz.f257.results = #[(.cell 4 3), (.cell 5 40)] from rfl]
   exact Lq
 ·have hw' : zAe ws = false := by simpa using hw
  repeat' first | (with_reducible first | refine zA ?_ | refine zB ?_ | refine zb ?_ | refine zAD ?_ | refine zF ?_ | refine zH ?_) | ((first | with_reducible refine zC fun KC J hJ hKC => ?_ | (refine' hKC _ _ _ _ _ (zE (zCU _ _ ?_) rfl rfl rfl ?_ ?_); (rotate_left 3); (· exact Lq); (rotate_left 1); (iterate 1 (· exact Hq)))); simp (maxSteps := 9999999) only [push_cast, seval, ↓reduceIte, hw']) | ((with_reducible refine hJ _ _ ?_); clear hJ hKC KC J) | ((with_reducible refine zG ?_ ?_); · rfl)
  refine zD ?_
  simp (maxSteps := 9999999) only [push_cast, seval, ↓reduceIte, show Tryz.f257.results = #[(.cell 4 3), (.cell 5 40)] from rfl]
  rw [show zFw ws i = (0, 1) from if_pos hw']
  exact Lq
def zCd (sp : Sp) (v : Int) : Int := (zCZ sp.val v).1
def opU (sp : Sp) (i : Int) : Int := (zFw sp.ws i).1
def zCX (sp : Sp) (x : Bool × Int × Int) : Int := if x.1 = true then x.2.1 else zCd sp x.2.1
def zJP (x : Bool × Int × Int) : Int := if x.1 = true then 1 else 0
def zDP (sp : Sp) (x : Int × Int × Int) : List Int := if x.1 = 1 then [opU sp 1, zCd sp x.2.1, x.2.2] else if x.1 = 8 ∨ x.1 = 9 ∨ x.1 = 10 then [opU sp x.1, x.2.1] else [opU sp x.1]
def zCh (sp : Sp) (x : Int × Int) : List Int := [zCd sp x.1, x.2]
def zCf (sp : Sp) (x : Bool × Int × Int) : List Int := [zJP x, zCX sp x, x.2.2]
def zBQ (sp : Sp) (s : Sta) : List Int :=
 ((s.code.length : Int) :: s.code.flatMap (zDP sp)) ++ (((s.mem.length : Int) :: s.mem.flatMap (zCh sp)) ++ (((s.stack.length : Int) :: s.stack.flatMap (zCf sp)) ++ [s.v, s.l]))
def vIL (sp : Sp) (us : List Nat) (o : Nat) (x : Int × Int × Int) : List Int := if x.1 = 1 ∧ hid us o x.2.2 = true then [zCd sp x.2.1] else []
def vAL (sp : Sp) (us : List Nat) (o : Nat) (x : Int × Int) : List Int := if hid us o x.2 = true then [zCd sp x.1] else []
def vSL (sp : Sp) (us : List Nat) (o : Nat) (x : Bool × Int × Int) : List Int := if hid us o x.2.2 = true then [zCX sp x] else []
def zCc (sp : Sp) (x : Bool × Int × Int) : List Int := [zJP x, x.2.2, zCX sp x]
def zEu (us : List Nat) (o : Nat) (l : Int) : Nat := (((List.range l.toNat).map (fun a : Nat => (a : Int))).filter (hid us o)).length
def zAb (sp : Sp) (us : List Nat) (o : Nat) (a b : Sta) : List Int :=
 b.code.flatMap (vIL sp us o) ++ (b.mem.flatMap (vAL sp us o) ++
  if hid us o a.l = true then (zt us o b.stack).flatMap (vSL sp us o) ++ (((b.stack.length : Int) - ((zt us o b.stack).length : Int)) :: (b.stack.drop (zt us o b.stack).length).flatMap (zCc sp) ++ [b.v, (zEu us o b.l : Int)])
  else b.stack.flatMap (vSL sp us o))
theorem zAs {x b : Int} (h0 : 0 ≤ x) (h1 : x < b) : (zCN b).path [x] = some x := by
 unfold zCN
 simp only [Cp.path]
 rw [if_pos ⟨h0, h1⟩]
theorem zFI {sp : Sp} (h : SpOk sp) {v : Int} (h0 : -sp.val ≤ v) (h1 : v ≤ sp.val) : (zFH sp.val).path [zCd sp v] = some v := by
 have v0 := h.v0
 have v1 := h.v1
 unfold zFH zCd zCZ
 rw [if_neg (by omega), if_neg (by omega), if_neg (by omega)]
 by_cases hp : 0 < v
 ·rw [if_pos hp]
  simp only [Cp.path]
  rw [if_pos (by omega)]
  unfold zFp
  rw [if_pos (by omega)]
  congr 1
  omega
 ·rw [if_neg hp]
  simp only [Cp.path]
  rw [if_pos (by omega)]
  unfold zFp
  rw [if_neg (by omega)]
  congr 1
  omega
theorem zPM {sp : Sp} (h : SpOk sp) {i : Int} (h0 : 0 ≤ i) (h1 : i ≤ 12) (h2 : sp.ws.getD i.toNat 0 ≠ 0) : (opC sp.ws).path [opU sp i] = some i := by
 have hw := h.ww
 have hl := h.wl
 obtain ⟨a1, a2, h3, a4⟩ := zDE hw
 have hk : i.toNat < sp.ws.length := by omega
 have hx : sp.ws.getD i.toNat 0 = sp.ws[i.toNat] := by simp [hk]
 have hwk := h3 sp.ws[i.toNat] (List.getElem_mem _)
 have htk := zCP hk
 have hk0 := zDw h3 i.toNat
 have hm := zGf h3 (show i.toNat + 1 ≤ sp.ws.length by omega)
 rw [List.take_length] at hm
 have hpos : 0 < sp.ws[i.toNat] := by rw [hx] at h2; omega
 have hi : ¬ (i < 0 ∨ (sp.ws.length : Int) ≤ i ∨ sp.ws.getD i.toNat 0 = 0) := by
  rintro (h | h | h)
  ·omega
  ·omega
  ·exact h2 h
 unfold opC opU zFw
 rw [if_neg (by simp [hw]), if_neg (by simp [hw]), if_neg hi]
 simp only [Cp.path]
 rw [if_pos (by omega), (zKK (i := i) h3 hk0.1 (by omega)).2 ⟨i.toNat, hk, by omega, Int.le_refl _, by omega⟩]
theorem zNe {n : Nat} {sp : Sp} (h : SpOk sp) {x : Int × Int × Int} (h1 : zAm n x = true) (h2 : zAn sp x = true) : (zFt n sp).path (zDP sp x) = some x := by
 obtain ⟨o, v, l⟩ := x
 simp only [zAn, Bool.and_eq_true, Bool.not_eq_true', decide_eq_false_iff_not, Bool.or_eq_true] at h2
 obtain ⟨h2, h3⟩ := h2
 unfold zFt zDP
 by_cases e1 : o = 1
 ·subst e1
  simp only [zAm, if_true, Bool.and_eq_true, zAM, Bool.not_eq_true', zAH] at h1
  have h4 := zAM.1 (h3.resolve_left (by simp))
  rw [if_pos rfl]
  have p1 := zPM h (i := 1) (by omega) (by omega) h2
  have p2 := zFI h h4.1 h4.2
  have p3 := zAs h1.2.1 h1.2.2
  exact Cp.path_bind (cs := [opU sp 1]) (ds := [zCd sp v, l]) _ _ p1 (Cp.path_bind (cs := [zCd sp v]) (ds := [l]) _ _ (by unfold nC; rw [if_pos rfl]; exact p2) (Cp.path_bind (cs := [l]) (ds := []) _ _ (by rw [if_pos rfl]; exact p3) rfl))
 ·unfold zAm at h1
  rw [if_neg e1] at h1
  simp only [Bool.and_eq_true, zAM, decide_eq_true_eq] at h1
  obtain ⟨ho, rfl, hv⟩ := h1
  have p1 := zPM h ho.1 ho.2 h2
  rw [if_neg e1]
  by_cases e8 : o = 8
  ·subst e8
   rw [if_pos rfl, zAM] at hv
   rw [if_pos (.inl rfl)]
   exact Cp.path_bind (cs := [opU sp 8]) (ds := [v]) _ _ p1 (Cp.path_bind (cs := [v]) (ds := []) _ _ (by unfold nC; rw [if_neg e1, if_pos rfl]; exact zAs (by omega) (by omega)) rfl)
  rw [if_neg e8] at hv
  by_cases e9 : o = 9
  ·subst e9
   rw [if_pos rfl, zAM] at hv
   rw [if_pos (.inr (.inl rfl))]
   exact Cp.path_bind (cs := [opU sp 9]) (ds := [v]) _ _ p1 (Cp.path_bind (cs := [v]) (ds := []) _ _ (by unfold nC; rw [if_neg e1, if_neg e8, if_pos rfl]; exact zAs (by omega) (by omega)) rfl)
  rw [if_neg e9] at hv
  by_cases e10 : o = 10
  ·subst e10
   rw [if_pos rfl, zAM] at hv
   rw [if_pos (.inr (.inr rfl))]
   exact Cp.path_bind (cs := [opU sp 10]) (ds := [v]) _ _ p1 (Cp.path_bind (cs := [v]) (ds := []) _ _ (by unfold nC; rw [if_neg e1, if_neg e8, if_neg e9, if_pos rfl]; exact zAs (by omega) (by omega)) rfl)
  rw [if_neg e10] at hv
  have hv : v = 0 := by simpa using hv
  subst hv
  rw [if_neg (by rintro (h | h | h) <;> omega)]
  exact Cp.path_bind (cs := [opU sp o]) (ds := []) _ _ p1 (Cp.path_bind (cs := []) (ds := []) (x := 0) _ _ (by unfold nC; rw [if_neg e1, if_neg e8, if_neg e9, if_neg e10]; rfl) (by rw [if_neg e1]; rfl))
theorem zPs {n : Nat} {sp : Sp} (h : SpOk sp) {x : Int × Int} (h1 : zBg n x = true) (h2 : inB (-sp.val) sp.val x.1 = true) : (zKT n sp).path (zCh sp x) = some x := by
 obtain ⟨v, l⟩ := x
 simp only [zBg, Bool.and_eq_true, Bool.not_eq_true', zAH] at h1
 rw [zAM] at h2
 exact Cp.path_bind (cs := [zCd sp v]) (ds := [l]) _ _ (zFI h h2.1 h2.2) (Cp.path_bind (cs := [l]) (ds := []) _ _ (zAs h1.2.1 h1.2.2) rfl)
theorem zIP {n : Nat} {sp : Sp} (h : SpOk sp) {x : Bool × Int × Int} (h1 : zBI n x = true) (h2 : (x.1 || inB (-sp.val) sp.val x.2.1) = true) : (vVC sp x.1).path [zCX sp x] = some x.2.1 := by
 obtain ⟨r, v, l⟩ := x
 unfold vVC zCX
 cases r
 ·simp only [Bool.false_or] at h2
  rw [zAM] at h2
  exact zFI h h2.1 h2.2
 ·simp only [zBI, if_true, Bool.and_eq_true, zAM] at h1
  show (zCN 13).path [v] = some v
  exact zAs (by omega) (by omega)
theorem zPg {n : Nat} {sp : Sp} (h : SpOk sp) {x : Bool × Int × Int} (h1 : zBI n x = true) (h2 : (x.1 || inB (-sp.val) sp.val x.2.1) = true) : (zKs n sp).path (zCf sp x) = some x := by
 have p2 := zIP h h1 h2
 obtain ⟨r, v, l⟩ := x
 simp only [zBI, Bool.and_eq_true, Bool.not_eq_true', zAH] at h1
 have p3 := zAs h1.1.1 h1.1.2
 unfold vVC at p2
 cases r
 ·exact Cp.path_bind (cs := [0]) (ds := [zCX sp (false, v, l), l]) (x := (0 : Int)) _ _ (zAs (by omega) (by omega)) (Cp.path_bind (cs := [zCX sp (false, v, l)]) (ds := [l]) _ _ p2 (Cp.path_bind (cs := [l]) (ds := []) _ _ p3 rfl))
 ·exact Cp.path_bind (cs := [1]) (ds := [zCX sp (true, v, l), l]) (x := (1 : Int)) _ _ (zAs (by omega) (by omega)) (Cp.path_bind (cs := [zCX sp (true, v, l)]) (ds := [l]) _ _ p2 (Cp.path_bind (cs := [l]) (ds := []) _ _ p3 rfl))
theorem zFs {α : Type} {c : Cp α} {f : α → List Int} : ∀ (n : Nat) (l : List α), l.length = n → (∀ x ∈ l, c.path (f x) = some x) → (c.times n).path (l.flatMap f) = some l
 | 0, l, hl, _ => by rw [List.length_eq_zero_iff.1 hl]; rfl
 | n + 1, l, hl, h => by
  have hne : l ≠ [] := fun h => by rw [h] at hl; cases hl
  have he := List.dropLast_concat_getLast hne
  have ih := zFs (c := c) (f := f) n l.dropLast (by rw [List.length_dropLast]; omega) fun x hx => h x (List.dropLast_subset l hx)
  have hx := h _ (List.getLast_mem hne)
  rw [← he, List.flatMap_append, List.flatMap_cons, List.flatMap_nil]
  exact Cp.path_bind _ _ ih (Cp.path_bind _ _ hx rfl)
theorem zHT {α : Type} {c : Cp α} {f : α → List Int} {l : List α} {most : Int} (hm : (l.length : Int) ≤ most) (h : ∀ x ∈ l, c.path (f x) = some x) : (c.rows most).path ((l.length : Int) :: l.flatMap f) = some l := by
 unfold Cp.rows
 simp only [Cp.path]
 rw [if_pos (by omega), Int.toNat_natCast]
 exact zFs _ l rfl h
theorem zSJ {n : Nat} {sp : Sp} (h : SpOk sp) {s : Sta} (hs : InSp n sp s) : (zGd n sp).path (zBQ sp s) = some s := by
 obtain ⟨l0, l1⟩ := zAH.1 hs.l
 have hv := hs.v
 have p1 := zHT (f := zDP sp) hs.cl fun x hx => zNe h (hs.c x hx).1 (hs.c x hx).2
 have p2 := zHT (f := zCh sp) hs.ml fun x hx => zPs h (hs.m x hx).1 (hs.m x hx).2
 have p3 := zHT (f := zCf sp) hs.sl fun x hx => zPg h (hs.s x hx).1 (hs.s x hx).2
 have p4 := zAs hv.1 (show s.v < 13 by omega)
 have p5 := zAs l0 l1
 have ho := hs.out
 obtain ⟨v, l, code, mem, stack, out⟩ := s
 simp only at ho p1 p2 p3 p4 p5
 subst ho
 exact Cp.path_bind _ _ p1 (Cp.path_bind _ _ p2 (Cp.path_bind _ _ p3 (Cp.path_bind (cs := [v]) (ds := [l]) _ _ p4 (Cp.path_bind (cs := [l]) (ds := []) _ _ p5 rfl))))
theorem zFJ {α : Type} {f : α → Cp α} {g : α → List Int} {p : α → α → Prop} (h : ∀ x y, p x y → (f x).path (g y) = some y) : ∀ {xs ys : List α}, Cp.Each p xs ys → (Cp.map f xs).path (ys.flatMap g) = some ys
 | [], [], _ => rfl
 | x :: xs, y :: ys, hh => by
  rw [List.flatMap_cons]
  have := Cp.path_bind (f x) (fun y => (Cp.map f xs).bind fun ys => .ret (y :: ys)) (h x y hh.1) (Cp.path_bind (ds := []) (Cp.map f xs) (fun ys => .ret (y :: ys)) (zFJ h hh.2) rfl)
  rwa [List.append_nil] at this
theorem zDe {α : Type} {p : α → α → Prop} {q : α → Prop} : ∀ {xs ys : List α}, Cp.Each p xs ys → (∀ y ∈ ys, q y) → Cp.Each (fun x y => p x y ∧ q y) xs ys
 | [], [], _, _ => trivial
 | _ :: _, y :: _, h, k => ⟨⟨h.1, k y List.mem_cons_self⟩, zDe h.2 fun z hz => k z (List.mem_cons_of_mem _ hz)⟩
theorem zJM {q : Int × Int × Int → Int × Int × Int → Bool} : ∀ {xs ys}, zCA q xs ys = true → Cp.Each (fun x y => q x y = true) xs ys
 | [], [], _ => trivial
 | [], _ :: _, h => by cases h
 | _ :: _, [], h => by cases h
 | _ :: _, _ :: _, h => by simp only [zCA, Bool.and_eq_true] at h; exact ⟨h.1, zJM h.2⟩
theorem zIr {q : Int × Int → Int × Int → Bool} : ∀ {xs ys}, zBx q xs ys = true → Cp.Each (fun x y => q x y = true) xs ys
 | [], [], _ => trivial
 | [], _ :: _, h => by cases h
 | _ :: _, [], h => by cases h
 | _ :: _, _ :: _, h => by simp only [zBx, Bool.and_eq_true] at h; exact ⟨h.1, zIr h.2⟩
theorem zFr {q : Bool × Int × Int → Bool × Int × Int → Bool} : ∀ {xs ys}, zCM q xs ys = true → Cp.Each (fun x y => q x y = true) xs ys
 | [], [], _ => trivial
 | [], _ :: _, h => by cases h
 | _ :: _, [], h => by cases h
 | _ :: _, _ :: _, h => by simp only [zCM, Bool.and_eq_true] at h; exact ⟨h.1, zFr h.2⟩
theorem zTp {n : Nat} {sp : Sp} (h : SpOk sp) (us : List Nat) (o : Nat) {x y : Int × Int × Int} (ha : alI us o x y = true) (h2 : zAn sp y = true) : (vIC sp us o x).path (vIL sp us o y) = some y := by
 obtain ⟨a, b, c⟩ := x
 obtain ⟨a', b', c'⟩ := y
 simp only [alI, zJR, zKR, Bool.and_eq_true, Bool.or_eq_true, beq_iff_eq, Bool.not_eq_true'] at ha
 obtain ⟨⟨rfl, hb⟩, rfl, hs⟩ := ha
 unfold vIC vIL
 by_cases hh : a = 1 ∧ hid us o c = true
 ·rw [if_pos hh, if_pos hh]
  obtain ⟨rfl, hh⟩ := hh
  simp only [zAn, Bool.and_eq_true, Bool.not_eq_true', decide_eq_false_iff_not, Bool.or_eq_true] at h2
  have h4 := zAM.1 (h2.2.resolve_left (by simp))
  exact Cp.path_bind (cs := [zCd sp b']) (ds := []) _ _ (zFI h h4.1 h4.2) rfl
 ·rw [if_neg hh, if_neg hh]
  have : b = b' := by
   by_cases h1 : a = 1
   ·rcases hs with hs | hs
    ·exact absurd ⟨h1, by unfold hid; rw [hs]; rfl⟩ hh
    ·exact hs
   ·exact hb.resolve_left h1
  rw [this]
  rfl
theorem zTY {sp : Sp} (h : SpOk sp) (us : List Nat) (o : Nat) {x y : Int × Int} (ha : alA us o x y = true) (h2 : inB (-sp.val) sp.val y.1 = true) : (vAC sp us o x).path (vAL sp us o y) = some y := by
 obtain ⟨b, c⟩ := x
 obtain ⟨b', c'⟩ := y
 simp only [alA, zKz, zKI, Bool.and_eq_true, Bool.or_eq_true, beq_iff_eq, Bool.not_eq_true', true_and] at ha
 obtain ⟨rfl, hs⟩ := ha
 rw [zAM] at h2
 unfold vAC vAL
 by_cases hh : hid us o c = true
 ·rw [if_pos hh, if_pos hh]
  exact Cp.path_bind (cs := [zCd sp b']) (ds := []) _ _ (zFI h h2.1 h2.2) rfl
 ·rw [if_neg hh, if_neg hh]
  have : b = b' := by
   rcases hs with hs | hs
   ·exact absurd (by unfold hid; rw [hs]; rfl) hh
   ·exact hs
  rw [this]
  rfl
theorem zOn {n : Nat} {sp : Sp} (h : SpOk sp) (us : List Nat) (o : Nat) {x y : Bool × Int × Int} (ha : alS us o x y = true) (h1 : zBI n y = true) (h2 : (y.1 || inB (-sp.val) sp.val y.2.1) = true) : (vSC sp us o x).path (vSL sp us o y) = some y := by
 have hv := zIP h h1 h2
 obtain ⟨a, b, c⟩ := x
 obtain ⟨a', b', c'⟩ := y
 simp only [alS, zLB, zKi, Bool.and_eq_true, Bool.or_eq_true, beq_iff_eq, Bool.not_eq_true'] at ha
 obtain ⟨rfl, rfl, hs⟩ := ha
 unfold vSC vSL
 by_cases hh : hid us o c = true
 ·rw [if_pos hh, if_pos hh]
  exact Cp.path_bind (cs := [zCX sp (a, b', c)]) (ds := []) _ _ hv rfl
 ·rw [if_neg hh, if_neg hh]
  have : b = b' := by
   rcases hs with hs | hs
   ·exact absurd (by unfold hid; rw [hs]; rfl) hh
   ·exact hs
  rw [this]
  rfl
theorem zSz {us : List Nat} {o : Nat} {sp : Sp} (h : SpOk sp) {x : Bool × Int × Int} (h1 : zBI us.length x = true) (h2 : (x.1 || inB (-sp.val) sp.val x.2.1) = true) (h3 : zCj us o x = false) : (v1C sp us o).path (zCc sp x) = some x := by
 have p2 := zIP h h1 h2
 obtain ⟨r, v, l⟩ := x
 simp only [zBI, Bool.and_eq_true, Bool.not_eq_true', zAH] at h1
 have p3 := zAs h1.1.1 h1.1.2
 cases r
 ·exact Cp.path_bind (cs := [0]) (ds := [l, zCX sp (false, v, l)]) (x := (0 : Int)) _ _ (zAs (by omega) (by omega)) (Cp.path_bind (cs := [l]) (ds := [zCX sp (false, v, l)]) _ _ p3 (Cp.path_bind (cs := [zCX sp (false, v, l)]) (ds := []) _ _ p2 rfl))
 ·have hh : hid us o l = true := by simpa [zCj, hid] using h3
  have he : (decide ((1 : Int) = 1) && hid us o l) = true := by rw [hh]; rfl
  refine Cp.path_bind (cs := [1]) (ds := [l, zCX sp (true, v, l)]) (x := (1 : Int)) _ _ (zAs (by omega) (by omega)) (Cp.path_bind (cs := [l]) (ds := [zCX sp (true, v, l)]) _ _ p3 ?_)
  rw [he]
  exact Cp.path_bind (cs := [zCX sp (true, v, l)]) (ds := []) _ _ p2 rfl
theorem zJL {α : Type} (p : α → Bool) : ∀ (n : Nat) (l : List α), l.length = n → ∀ x ∈ l.drop (zBT p l), p x = false
 | 0, l, hl, x, hx => by rw [List.length_eq_zero_iff.1 hl] at hx; simp at hx
 | n + 1, l, hl, x, hx => by
  have hne : l ≠ [] := fun h => by rw [h] at hl; cases hl
  have he := List.dropLast_concat_getLast hne
  have hd : l.dropLast.length = n := by rw [List.length_dropLast]; omega
  have hk := zES p l.dropLast
  rw [← he, zDf] at hx
  by_cases hp : p (l.getLast hne) = true
  ·rw [if_pos hp, List.drop_eq_nil_of_le (by rw [List.length_append]; simp)] at hx
   cases hx
  ·rw [if_neg hp, List.drop_append_of_le_length hk] at hx
   rcases List.mem_append.1 hx with hx | hx
   ·exact zJL p n l.dropLast hd x hx
   ·rw [List.mem_singleton.1 hx]; simpa using hp
theorem zPm {us : List Nat} {o : Nat} {l : Int} (h1 : zv us.length l = false) (h2 : hid us o l = true) : (zEu us o l : Int) < ((zf us o).length : Int) ∧ (zf us o).getD (zEu us o l) 0 = l := by
 obtain ⟨l, rfl, hl⟩ := zBV h1
 unfold zEu zf
 rw [Int.toNat_natCast]
 obtain ⟨k, hk⟩ : ∃ k, us.length = l + (k + 1) := ⟨us.length - l - 1, by omega⟩
 rw [hk, List.range_add, List.map_append, List.filter_append, List.range_succ_eq_map]
 simp only [List.map_cons, List.filter_cons, Nat.add_zero, h2, if_true, List.length_append, List.length_cons]
 refine ⟨by omega, ?_⟩
 rw [List.getD_eq_getElem?_getD, List.getElem?_append_right (Nat.le_refl _), Nat.sub_self]
 rfl
theorem zQa {sp : Sp} (h : SpOk sp) {us : List Nat} {o : Nat} {a b : Sta} (ha : InSp us.length sp a) (hb : InSp us.length sp b) (hs : zCE us o a b = true) : (zDT sp us o a).path (zAb sp us o a b) = some b := by
 unfold zCE at hs
 simp only [Bool.and_eq_true] at hs
 obtain ⟨e1, e2, _, e3⟩ := hs
 have q1 := zFJ (f := vIC sp us o) (g := vIL sp us o) (fun x y hxy => zTp (n := us.length) h us o hxy.1 hxy.2) (zDe (zJM e1) fun y hy => (hb.c y hy).2)
 have q2 := zFJ (f := vAC sp us o) (g := vAL sp us o) (fun x y hxy => zTY h us o hxy.1 hxy.2) (zDe (zIr e2) fun y hy => (hb.m y hy).2)
 have ob := hb.out
 have oa := ha.out
 obtain ⟨bl0, bl1⟩ := zAH.1 hb.l
 have hbv := hb.v
 have hbs := hb.sl
 unfold zDT zAb
 refine Cp.path_bind _ _ q1 (Cp.path_bind _ _ q2 ?_)
 cases hf : fl us a.l.toNat o
 ·rw [hf] at e3
  simp only [Bool.and_eq_true, Bool.not_eq_true'] at e3
  have hh : hid us o a.l = true := by unfold hid; rw [hf]; rfl
  have hh2 : hid us o b.l = true := by unfold hid; rw [e3.1]; rfl
  rw [if_pos hh, if_pos hh]
  have hcr : ∀ x ∈ zt us o b.stack, x ∈ b.stack := fun x hx => List.mem_of_mem_take hx
  have q3 := zFJ (f := vSC sp us o) (g := vSL sp us o) (fun x y hxy => zOn (n := us.length) h us o hxy.1 hxy.2.1 hxy.2.2) (zDe (zFr e3.2) fun y hy => hb.s y (hcr y hy))
  have hcl : (zt us o b.stack).length = zBT (zCj us o) b.stack := by
   unfold zt; rw [List.length_take]; have := zES (zCj us o) b.stack; omega
  have hkl := zES (zCj us o) b.stack
  have hdl : (b.stack.drop (zt us o b.stack).length).length = b.stack.length - (zt us o b.stack).length := List.length_drop
  have hdr : zt us o b.stack ++ b.stack.drop (zt us o b.stack).length = b.stack := by
   rw [hcl]; unfold zt; exact List.take_append_drop _ _
  have q4 := zFs (c := v1C sp us o) (f := zCc sp) _ (b.stack.drop (zt us o b.stack).length) rfl fun x hx => by
   have hm := hb.s x (List.mem_of_mem_drop hx)
   rw [hcl] at hx
   exact zSz h hm.1 hm.2 (zJL _ _ _ rfl x hx)
  obtain ⟨k1, k2⟩ := zPm hb.l hh2
  refine Cp.path_bind _ _ q3 ?_
  refine Cp.path_bind (x := b.stack) (cs := ((b.stack.length : Int) - ((zt us o b.stack).length : Int)) :: (b.stack.drop (zt us o b.stack).length).flatMap (zCc sp)) (ds := [b.v, (zEu us o b.l : Int)]) _ _ ?_ ?_
  ·unfold zKJ
   refine Cp.path_bind (cs := [(b.stack.length : Int) - ((zt us o b.stack).length : Int)]) _ _ (zAs (by omega) (by omega)) ?_
   rw [show ((b.stack.length : Int) - ((zt us o b.stack).length : Int)).toNat = (b.stack.drop (zt us o b.stack).length).length by omega]
   have := Cp.path_bind (ds := []) _ (fun t => Cp.ret (zt us o b.stack ++ t)) q4 rfl
   rw [List.append_nil, hdr] at this
   exact this
  ·refine Cp.path_bind (cs := [b.v]) (ds := [(zEu us o b.l : Int)]) _ _ (zAs hbv.1 (by omega)) (Cp.path_bind (cs := [(zEu us o b.l : Int)]) (ds := []) _ _ (zAs (by omega) k1) ?_)
   rw [Int.toNat_natCast, k2, oa, ← ob]
   rfl
 ·rw [hf] at e3
  simp only [Bool.and_eq_true, beq_iff_eq] at e3
  have hh : ¬ hid us o a.l = true := by unfold hid; rw [hf]; simp
  rw [if_neg hh, if_neg hh]
  have q3 := zFJ (f := vSC sp us o) (g := vSL sp us o) (fun x y hxy => zOn (n := us.length) h us o hxy.1 hxy.2.1 hxy.2.2) (zDe (zFr e3.2.2) fun y hy => hb.s y hy)
  have := Cp.path_bind (ds := []) _ (fun k => Cp.ret (⟨a.v, a.l, b.code, b.mem, k, a.out⟩ : Sta)) q3 rfl
  rw [List.append_nil] at this
  rw [e3.2.1.1, e3.2.1.2, oa, ← ob] at this ⊢
  exact this
def zCn {α : Type} (c : Cp α) (f : α → Nat) : Prop := ∀ cs x, c.path cs = some x → cs.length = f x
theorem zAy (b : Int) : zCn (zCN b) fun _ => 1 := fun cs x h => by
 match cs, h with
 | [], h => simp [zCN, Cp.path] at h
 | [_], _ => rfl
 | _ :: _ :: _, h => simp [zCN, Cp.path] at h
theorem zEP (v : Int) : zCn (zFH v) fun _ => 1 := fun cs x h => by
 unfold zFH at h
 split at h
 ·cases cs <;> simp [Cp.path] at h
 ·match cs, h with
  | [], h => simp [Cp.path] at h
  | [_], _ => rfl
  | _ :: _ :: _, h => simp [Cp.path] at h
theorem zTD (ws : List Int) : zCn (opC ws) fun _ => 1 := fun cs x h => by
 unfold opC at h
 split at h
 ·cases cs <;> simp [Cp.path] at h
 ·match cs, h with
  | [], h => simp [Cp.path] at h
  | [_], _ => rfl
  | _ :: _ :: _, h => simp [Cp.path] at h
theorem zAX {α : Type} {x y : α} {cs : List Int} (h : (Cp.ret x).path cs = some y) : cs = [] ∧ x = y := by
 cases cs with
 | nil => exact ⟨rfl, by simpa [Cp.path] using h⟩
 | cons _ _ => simp [Cp.path] at h
theorem zMJ (sp : Sp) (r : Bool) : zCn (vVC sp r) fun _ => 1 := by
 unfold vVC
 cases r
 ·exact zEP _
 ·exact zAy _
theorem zOR (n : Int) (sp : Sp) : zCn (zFt n sp) fun x => (zDP sp x).length := fun cs x h => by
 obtain ⟨c1, r1, o, rfl, h1, h⟩ := Cp.bind_path _ _ h
 obtain ⟨c2, r2, v, rfl, h2, h⟩ := Cp.bind_path _ _ h
 obtain ⟨c3, r3, l, rfl, h3, h⟩ := Cp.bind_path _ _ h
 obtain ⟨rfl, rfl⟩ := zAX h
 have k1 := zTD _ _ _ h1
 unfold zDP
 unfold nC at h2
 by_cases e1 : o = 1
 ·rw [if_pos e1] at h2 h3
  have k2 := zEP _ _ _ h2
  have k3 := zAy _ _ _ h3
  simp only [if_pos e1, List.length_append, List.length_cons, List.length_nil]
  try dsimp only at *
  omega
 ·rw [if_neg e1] at h2 h3
  obtain ⟨rfl, _⟩ := zAX h3
  by_cases e8 : o = 8
  ·rw [if_pos e8] at h2
   have k2 := zAy _ _ _ h2
   simp only [if_neg e1, if_pos (show o = 8 ∨ o = 9 ∨ o = 10 from .inl e8), List.length_append, List.length_cons, List.length_nil]
   try dsimp only at *
   omega
  rw [if_neg e8] at h2
  by_cases e9 : o = 9
  ·rw [if_pos e9] at h2
   have k2 := zAy _ _ _ h2
   simp only [if_neg e1, if_pos (show o = 8 ∨ o = 9 ∨ o = 10 from .inr (.inl e9)), List.length_append, List.length_cons, List.length_nil]
   try dsimp only at *
   omega
  rw [if_neg e9] at h2
  by_cases e10 : o = 10
  ·rw [if_pos e10] at h2
   have k2 := zAy _ _ _ h2
   simp only [if_neg e1, if_pos (show o = 8 ∨ o = 9 ∨ o = 10 from .inr (.inr e10)), List.length_append, List.length_cons, List.length_nil]
   try dsimp only at *
   omega
  rw [if_neg e10] at h2
  obtain ⟨rfl, _⟩ := zAX h2
  simp only [if_neg e1, if_neg (show ¬ (o = 8 ∨ o = 9 ∨ o = 10) from fun h => by rcases h with h | h | h <;> contradiction), List.length_append, List.length_cons, List.length_nil]
  try dsimp only at *
  omega
theorem zQf (n : Int) (sp : Sp) : zCn (zKT n sp) fun x => (zCh sp x).length := fun cs x h => by
 obtain ⟨c1, r1, o, rfl, h1, h⟩ := Cp.bind_path _ _ h
 obtain ⟨c2, r2, v, rfl, h2, h⟩ := Cp.bind_path _ _ h
 obtain ⟨rfl, rfl⟩ := zAX h
 have k1 := zEP _ _ _ h1
 have k2 := zAy _ _ _ h2
 simp only [zCh, List.length_append, List.length_cons, List.length_nil]
 try dsimp only at *
 omega
theorem zQE (n : Int) (sp : Sp) : zCn (zKs n sp) fun x => (zCf sp x).length := fun cs x h => by
 obtain ⟨c1, r1, o, rfl, h1, h⟩ := Cp.bind_path _ _ h
 obtain ⟨c2, r2, v, rfl, h2, h⟩ := Cp.bind_path _ _ h
 obtain ⟨c3, r3, l, rfl, h3, h⟩ := Cp.bind_path _ _ h
 obtain ⟨rfl, rfl⟩ := zAX h
 have k1 := zAy _ _ _ h1
 have k2 : c2.length = 1 := by
  split at h2
  ·exact zAy _ _ _ h2
  ·exact zEP _ _ _ h2
 have k3 := zAy _ _ _ h3
 simp only [zCf, List.length_append, List.length_cons, List.length_nil]
 try dsimp only at *
 omega
theorem zTR (sp : Sp) (us : List Nat) (o : Nat) : zCn (v1C sp us o) fun x => (zCc sp x).length := fun cs x h => by
 obtain ⟨c1, r1, o, rfl, h1, h⟩ := Cp.bind_path _ _ h
 obtain ⟨c2, r2, v, rfl, h2, h⟩ := Cp.bind_path _ _ h
 obtain ⟨c3, r3, l, rfl, h3, h⟩ := Cp.bind_path _ _ h
 obtain ⟨rfl, rfl⟩ := zAX h
 have k1 := zAy _ _ _ h1
 have k2 := zAy _ _ _ h2
 have k3 := zMJ _ _ _ _ h3
 simp only [zCc, List.length_append, List.length_cons, List.length_nil]
 try dsimp only at *
 omega
theorem zFy {α : Type} {c : Cp α} {g : α → List Int} (hc : zCn c fun x => (g x).length) : ∀ (n : Nat) (cs : List Int) (l : List α), (c.times n).path cs = some l → cs.length = (l.flatMap g).length ∧ l.length = n
 | 0, cs, l, h => by
  obtain ⟨rfl, rfl⟩ := zAX h
  exact ⟨rfl, rfl⟩
 | n + 1, cs, l, h => by
  obtain ⟨c1, r1, xs, rfl, h1, h⟩ := Cp.bind_path _ _ h
  obtain ⟨c2, r2, x, rfl, h2, h⟩ := Cp.bind_path _ _ h
  obtain ⟨rfl, rfl⟩ := zAX h
  obtain ⟨k1, k2⟩ := zFy hc n _ _ h1
  have k3 := hc _ _ h2
  simp only [List.flatMap_append, List.flatMap_cons, List.flatMap_nil, List.length_append, List.length_cons, List.length_nil]
  try dsimp only at *
  omega
theorem zHA {α : Type} {c : Cp α} {g : α → List Int} (hc : zCn c fun x => (g x).length) (most : Int) : zCn (c.rows most) fun l => 1 + (l.flatMap g).length := fun cs l h => by
 cases cs with
 | nil => simp [Cp.rows, Cp.path] at h
 | cons n cs =>
  simp only [Cp.rows, Cp.path] at h
  split at h
  ·have := (zFy hc _ _ _ h).1
   simp only [List.length_cons]; (try dsimp only at *); omega
  ·cases h
theorem zRd (n : Int) (sp : Sp) : zCn (zGd n sp) fun s => (zBQ sp s).length := fun cs s h => by
 obtain ⟨c1, r1, c, rfl, h1, h⟩ := Cp.bind_path _ _ h
 obtain ⟨c2, r2, m, rfl, h2, h⟩ := Cp.bind_path _ _ h
 obtain ⟨c3, r3, k, rfl, h3, h⟩ := Cp.bind_path _ _ h
 obtain ⟨c4, r4, v, rfl, h4, h⟩ := Cp.bind_path _ _ h
 obtain ⟨c5, r5, l, rfl, h5, h⟩ := Cp.bind_path _ _ h
 obtain ⟨rfl, rfl⟩ := zAX h
 have k1 := zHA (zOR n sp) _ _ _ h1
 have k2 := zHA (zQf n sp) _ _ _ h2
 have k3 := zHA (zQE n sp) _ _ _ h3
 have k4 := zAy _ _ _ h4
 have k5 := zAy _ _ _ h5
 simp only [zBQ, List.length_append, List.length_cons, List.length_nil]
 try dsimp only at *
 omega
theorem zFO {α : Type} {f : α → Cp α} {g : α → List Int} (hc : ∀ x, zCn (f x) fun y => (g y).length) : ∀ xs : List α, zCn (Cp.map f xs) fun ys => (ys.flatMap g).length
 | [], cs, ys, h => by
  obtain ⟨rfl, rfl⟩ := zAX h
  rfl
 | x :: xs, cs, ys, h => by
  obtain ⟨c1, r1, y, rfl, h1, h⟩ := Cp.bind_path _ _ h
  obtain ⟨c2, r2, zs, rfl, h2, h⟩ := Cp.bind_path _ _ h
  obtain ⟨rfl, rfl⟩ := zAX h
  have k1 := hc x _ _ h1
  have k2 := zFO hc xs _ _ h2
  simp only [List.flatMap_cons, List.length_append, List.length_nil] at k2 ⊢
  try dsimp only at *
  omega
theorem zTr (sp : Sp) (us : List Nat) (o : Nat) (x : Int × Int × Int) : zCn (vIC sp us o x) fun y => (vIL sp us o y).length := fun cs y h => by
 unfold vIC at h
 by_cases hh : x.1 = 1 ∧ hid us o x.2.2 = true
 ·rw [if_pos hh] at h
  obtain ⟨c1, r1, v, rfl, h1, h⟩ := Cp.bind_path _ _ h
  obtain ⟨rfl, rfl⟩ := zAX h
  have k1 := zEP _ _ _ h1
  unfold vIL
  simp only [if_pos hh, List.length_append, List.length_cons, List.length_nil]
  try dsimp only at *
  omega
 ·rw [if_neg hh] at h
  obtain ⟨rfl, rfl⟩ := zAX h
  unfold vIL
  simp only [if_neg hh]
theorem zSe (sp : Sp) (us : List Nat) (o : Nat) (x : Int × Int) : zCn (vAC sp us o x) fun y => (vAL sp us o y).length := fun cs y h => by
 unfold vAC at h
 by_cases hh : hid us o x.2 = true
 ·rw [if_pos hh] at h
  obtain ⟨c1, r1, v, rfl, h1, h⟩ := Cp.bind_path _ _ h
  obtain ⟨rfl, rfl⟩ := zAX h
  have k1 := zEP _ _ _ h1
  unfold vAL
  simp only [if_pos hh, List.length_append, List.length_cons, List.length_nil]
  try dsimp only at *
  omega
 ·rw [if_neg hh] at h
  obtain ⟨rfl, rfl⟩ := zAX h
  unfold vAL
  simp only [if_neg hh]
theorem zOj (sp : Sp) (us : List Nat) (o : Nat) (x : Bool × Int × Int) : zCn (vSC sp us o x) fun y => (vSL sp us o y).length := fun cs y h => by
 unfold vSC at h
 by_cases hh : hid us o x.2.2 = true
 ·rw [if_pos hh] at h
  obtain ⟨c1, r1, v, rfl, h1, h⟩ := Cp.bind_path _ _ h
  obtain ⟨rfl, rfl⟩ := zAX h
  have k1 := zMJ _ _ _ _ h1
  unfold vSL
  simp only [if_pos hh, List.length_append, List.length_cons, List.length_nil]
  try dsimp only at *
  omega
 ·rw [if_neg hh] at h
  obtain ⟨rfl, rfl⟩ := zAX h
  unfold vSL
  simp only [if_neg hh]
theorem zQS {sp : Sp} (h : SpOk sp) {us : List Nat} {o : Nat} {a : Sta} (ha : InSp us.length sp a) : zCn (zDT sp us o a) fun b => (zAb sp us o a b).length := fun cs b h0 => by
 unfold zDT at h0
 obtain ⟨c1, r1, c, rfl, h1, h0⟩ := Cp.bind_path _ _ h0
 obtain ⟨c2, r2, m, rfl, h2, h0⟩ := Cp.bind_path _ _ h0
 have k1 := zFO (zTr sp us o) _ _ _ h1
 have k2 := zFO (zSe sp us o) _ _ _ h2
 unfold zAb
 by_cases hh : hid us o a.l = true
 ·rw [if_pos hh] at h0
  obtain ⟨c3, r3, k, rfl, h3, h0⟩ := Cp.bind_path _ _ h0
  obtain ⟨c4, r4, t, rfl, h4, h0⟩ := Cp.bind_path _ _ h0
  obtain ⟨c5, r5, v, rfl, h5, h0⟩ := Cp.bind_path _ _ h0
  obtain ⟨c6, r6, l, rfl, h6, h0⟩ := Cp.bind_path _ _ h0
  obtain ⟨rfl, rfl⟩ := zAX h0
  unfold zKJ at h4
  obtain ⟨c7, r7, n, rfl, h7, h4⟩ := Cp.bind_path _ _ h4
  obtain ⟨c8, r8, u, rfl, h8, h4⟩ := Cp.bind_path _ _ h4
  obtain ⟨rfl, rfl⟩ := zAX h4
  have hcr : ∀ x ∈ zt us o a.stack, x ∈ a.stack := fun x hx => List.mem_of_mem_take hx
  have hk := Cp.all_path _ (Cp.all_map (p := fun x y => alS us o x y = true ∧ (y.1 = x.1 ∧ y.2.2 = x.2.2) ∧ zBI us.length y = true ∧ (y.1 || inB (-sp.val) sp.val y.2.1) = true) fun x hx => zLy h (ha.s x (hcr x hx)).1 (ha.s x (hcr x hx)).2) h3
  have hu := Cp.all_path _ (Cp.all_times (zOk h us o) _) h8
  have hcm := zKM (s := a.stack) (Each.of (fun _ _ h => h.2.1) hk) fun x hx => (hu.2 x hx).1
  have k3 := zFO (zOj sp us o) _ _ _ h3
  have k5 := zAy _ _ _ h5
  have k6 := zAy _ _ _ h6
  have k7 := zAy _ _ _ h7
  have k8 := (zFy (zTR sp us o) _ _ _ h8).1
  simp only [if_pos hh, hcm, List.drop_append_of_le_length (Nat.le_refl k.length), List.drop_length, List.nil_append, List.length_append, List.length_cons, List.length_nil]
  try dsimp only at *
  omega
 ·rw [if_neg hh] at h0
  obtain ⟨c3, r3, k, rfl, h3, h0⟩ := Cp.bind_path _ _ h0
  obtain ⟨rfl, rfl⟩ := zAX h0
  have k3 := zFO (zOj sp us o) _ _ _ h3
  simp only [if_neg hh, List.length_append, List.length_nil]
  try dsimp only at *
  omega
def zDQ (ns : List ByteArray) (us : List Nat) (sp : Sp) (s : Sta) : Int := if zCQ ns us sp = 0 then if zEV us.length sp s = true then 0 else 9 else zCQ ns us sp
def zDU (ns : List ByteArray) (us : List Nat) (sp : Sp) (o : Int) (a b : Sta) : Int :=
 if zCQ ns us sp = 0 then if zEV us.length sp a = true ∧ zEV us.length sp b = true then if zDL ns us o a b = 0 ∧ zCE us o.toNat a b = true then 0 else 9 else 9 else zCQ ns us sp
def stU (ns : List ByteArray) (us : List Nat) (sp : Sp) (s : Sta) : List Int := if zDQ ns us sp s = 0 then zBQ sp s else []
def vaU (ns : List ByteArray) (us : List Nat) (sp : Sp) (o : Int) (a b : Sta) : List Int := if zDU ns us sp o a b = 0 then zAb sp us o.toNat a b else []
def paU (ns : List ByteArray) (us : List Nat) (sp : Sp) (o : Int) (a b : Sta) : List Int := if zDU ns us sp o a b = 0 then zBQ sp a ++ zAb sp us o.toNat a b else []
structure Two (ns : List ByteArray) (us : List Nat) (sp : Sp) (o : Int) (a b : Sta) : Prop where
 may : zCQ ns us sp = 0
 ia : zEV us.length sp a = true
 ib : zEV us.length sp b = true
 ok : zDL ns us o a b = 0
 al : zCE us o.toNat a b = true
theorem zIk {ns : List ByteArray} {us : List Nat} {sp : Sp} {o : Int} {a b : Sta} : zDU ns us sp o a b = 0 ↔ Two ns us sp o a b := by
 unfold zDU
 constructor
 ·intro h
  split at h
  ·rename_i h1
   split at h
   ·rename_i h2
    split at h
    ·rename_i h3; exact ⟨h1, h2.1, h2.2, h3.1, h3.2⟩
    ·cases h
   ·cases h
  ·rename_i h1; exact absurd h h1
 ·rintro ⟨h1, h2, h3, h4, h5⟩
  rw [if_pos h1, if_pos ⟨h2, h3⟩, if_pos ⟨h4, h5⟩]
theorem zRi {ns : List ByteArray} {us : List Nat} {sp : Sp} {s : Sta} : zDQ ns us sp s = 0 ↔ zCQ ns us sp = 0 ∧ zEV us.length sp s = true := by
 unfold zDQ
 constructor
 ·intro h
  split at h
  ·rename_i h1
   split at h
   ·rename_i h2; exact ⟨h1, h2⟩
   ·cases h
  ·rename_i h1; exact absurd h h1
 ·rintro ⟨h1, h2⟩
  rw [if_pos h1, if_pos h2]
theorem zPb {sp : Sp} (h : SpOk sp) {us : List Nat} {o : Nat} {a b : Sta} (ha : InSp us.length sp a) (hb : InSp us.length sp b) (hs : zCE us o a b = true) : (zFD sp us o).path (zBQ sp a ++ zAb sp us o a b) = some (a, b) := by
 have := Cp.path_bind (zGd us.length sp) (fun a => (zDT sp us o a).bind fun b => .ret (a, b)) (zSJ h ha) (Cp.path_bind (ds := []) _ (fun b => Cp.ret (a, b)) (zQa h ha hb hs) rfl)
 rwa [List.append_nil] at this
theorem zQT {sp : Sp} (h : SpOk sp) {us : List Nat} {o : Nat} {a b : Sta} {cs : List Int} (hp : (zFD sp us o).path cs = some (a, b)) : cs.length = (zBQ sp a ++ zAb sp us o a b).length := by
 obtain ⟨c1, r1, s, rfl, h1, h2⟩ := Cp.bind_path _ _ hp
 obtain ⟨c2, r2, t, rfl, h3, h4⟩ := Cp.bind_path _ _ h2
 obtain ⟨rfl, e⟩ := zAX h4
 cases e
 have ha := (zCk h).1 (Cp.all_path _ (zGM h) h1)
 have k1 := zRd _ _ _ _ h1
 have k2 := zQS h ha _ _ h3
 simp only [List.length_append, List.length_nil]
 dsimp only at k1 k2
 omega
theorem zJk {ns : List ByteArray} {us : List Nat} {sp : Sp} {o : Int} {a b : Sta} (h : Two ns us sp o a b) :
  zEX ns us sp o ⟨zBQ sp a ++ zAb sp us o.toNat a b, 0, []⟩ = (⟨zBQ sp a ++ zAb sp us o.toNat a b, ((zBQ sp a ++ zAb sp us o.toNat a b).length : Int), zBQ sp a ++ zAb sp us o.toNat a b⟩, a, b, 0) ∧ (zBQ sp a ++ zAb sp us o.toNat a b).length ≤ 158 := by
 obtain ⟨hm, ha, hb, ho, hs⟩ := h
 have hsp := (zGc hm).2
 have hob := (zOG ho).ob
 obtain ⟨O, rfl, hO⟩ := zBV hob
 rw [Int.toNat_natCast] at hs ⊢
 have hp := zPb hsp ((zCk hsp).1 ha) ((zCk hsp).1 hb) hs
 have hl := Cp.path_deep _ (zLD hsp us O) hp
 obtain ⟨z, hz⟩ : ∃ z, zBQ sp a ++ zAb sp us O a b = z := ⟨_, rfl⟩
 rw [hz] at hp hl ⊢
 have hr := Cp.path_run (zFD sp us O) (L := z) (g := []) (a := 0) hp (by omega) (by simp; omega) ⟨[], by simp⟩
 simp only [Nat.zero_add, List.nil_append] at hr
 rw [zKX hm hob (by omega)]
 refine ⟨?_, hl⟩
 show zUh ((zFD sp us O).run ⟨z, ((0 : Nat) : Int), []⟩) = _
 rw [hr]
 rfl
theorem zMX (ns : List ByteArray) (us : List Nat) (sp : Sp) (o : Int) (l : List Int) (hl : l.length ≤ 500) : (∃ e, e ≠ 0 ∧ zEX ns us sp o ⟨l, 0, []⟩ = (Dr.z, Sta.z, Sta.z, e)) ∨
  ∃ d a b, zEX ns us sp o ⟨l, 0, []⟩ = (d, a, b, 0) ∧ Two ns us sp o a b ∧ Sml15 a ∧ Sml15 b ∧ d.g.length = (zBQ sp a ++ zAb sp us o.toNat a b).length := by
 by_cases hmo : zCQ ns us sp = 0 ∧ zv us.length o = false
 case neg => exact .inl (zSs hl hmo)
 obtain ⟨hm, ho⟩ := hmo
 obtain ⟨hc, hsp⟩ := zGc hm
 have hul := zGz hc
 obtain ⟨O, rfl, hO⟩ := zBV ho
 rw [zKX hm ho hl]
 cases hrun : (zFD sp us O).run ⟨l, 0, []⟩ with
 | error e => exact .inl ⟨e, zRq hsp us O _ hrun, rfl⟩
 | ok x =>
  obtain ⟨d, a, b⟩ := x
  obtain ⟨g1, _, _⟩ := zPx (zLD hsp us O) (by omega) hrun
  obtain ⟨ia, ib, hst⟩ := Cp.all_path _ (zPi hsp us O) g1
  have ha := (zCk hsp).2 ia
  have hb := (zCk hsp).2 ib
  refine .inr ⟨d, a, b, rfl, ⟨hm, ha, hb, ?_, by rw [Int.toNat_natCast]; exact hst⟩, zIX ha, zIX hb, ?_⟩
  ·unfold zDL; rw [if_pos hc, ho, zKS hul.1 ia, zKS hul.1 ib]; rfl
  ·rw [Int.toNat_natCast]; exact zQT hsp g1
def zEA (l : List Sta) : List (List D) := l.map (zAT false false false false)
@[push_cast] theorem zSa (l : List Sta) : (zEA l).length = l.length := by simp [zEA]
theorem zQx {l : List Sta} {n : Nat} {x : Sta} (h : l[n]? = some x) : zFk (zEA l) n = zAT false false false false x := by unfold zEA; exact zBs _ _ _ _ h
def zDr (ns : List ByteArray) (us : List Nat) (sp : Sp) : List Sta → Int
 | [] => 0
 | s :: r => if zDQ ns us sp s = 0 then zDr ns us sp r else zDQ ns us sp s
theorem zHG {ns : List ByteArray} {us : List Nat} {sp : Sp} : ∀ {l : List Sta} {i : Nat}, (∀ j s, j < i → l[j]? = some s → zDQ ns us sp s = 0) → zDr ns us sp l = zDr ns us sp (l.drop i)
 | [], i, _ => by rw [List.drop_nil]
 | s :: r, 0, _ => rfl
 | s :: r, i + 1, h => by
  rw [List.drop_succ_cons, zDr, if_pos (h 0 s (by omega) rfl)]
  exact zHG fun j x hj hx => h (j + 1) x (by omega) (by simpa using hx)
theorem zPJ (f g fl : Bool) (ns : List ByteArray) (us : List Nat) (sp : Sp) (l : List Sta) (hs : Szs ns) (hu : U32 us) (hw : sp.ws.length ≤ 1000) (hl : ∀ s ∈ l, Sml s) (hn : l.length ≤ 1000) :
  Fn Tryz.prog 77 [.agg [.sl f 1 (zS ns), .sl g 1 (zR us)], .agg (spF false sp), .sl fl 6 (zEA l)] [] (.v (.int .i64 (zDr ns us sp l))) [] := by
 simp only [spF]
 refine Fn.of (fn := Tryz.f77) (by kernel_rfl) rfl (by kernel_rfl) ⟨[.agg [.sl f 1 (zS ns), .sl g 1 (zR us)], .agg [.v (.int .i64 sp.code), .v (.int .i64 sp.mem), .v (.int .i64 sp.stack), .v (.int .i64 sp.val), .sl false 1 (zM sp.ws)], .sl fl 6 (zEA l), .v undef, .v undef, .v undef, .v undef, .v undef, .v undef, .v undef, .v undef, .v undef, .v undef, .v undef, .v undef, .v undef, .v undef, .v undef, .v undef, .v undef, .v undef, .v undef, .v undef, .v undef, .v undef, .v undef, .v undef, .v undef, .v undef, .v undef], []⟩ rfl ?_
 repeat' first | (with_reducible first | refine zA ?_ | refine zB ?_ | refine zH ?_) | ((with_reducible refine zC fun KC J hJ hKC => ?_); simp (maxSteps := 9999999) only [push_cast, seval, ↓reduceIte]) | ((with_reducible refine hJ _ _ ?_); clear hJ hKC KC J)
 refine zy 2 (γ := {i : Nat // i ≤ l.length ∧ ∀ j s, j < i → l[j]? = some s → zDQ ns us sp s = 0}) (fun i => ⟨[.any, .any, .any, .ptr 0 0 0, .ptr 1 0 0, .any, .v (.int .i64 0), .any, .any, .any, .any, .sl fl 6 (zEA l), .v (.int .i64 l.length), .v (.int .i64 i.1), .any, .any, .any, .any, .any, .any, .any, .any, .any, .any, .any, .any, .any, .any, .any, .any], [.ent ⟨0, none, 25, [.sl f 1 (zS ns), .sl g 1 (zR us)], .cells⟩, .ent ⟨0, none, 28, [.v (.int .i64 sp.code), .v (.int .i64 sp.mem), .v (.int .i64 sp.stack), .v (.int .i64 sp.val), .sl false 1 (zM sp.ws)], .cells⟩]⟩) (fun i => l.length - i.1) ⟨0, by omega, fun j s hj => by omega⟩ (fun i => rfl) (fun i => zAF rfl) (fun i => rfl) ⟨?_, Fq⟩ ?_
 ·exact Lq
 rintro ⟨i, hi, hz⟩
 by_cases hlt : (i : Int) < (l.length : Int)
 ·have hx : l[i]? = some l[i] := List.getElem?_eq_getElem (by omega)
  obtain ⟨s, hs0⟩ : ∃ s, l[i] = s := ⟨_, rfl⟩
  rw [hs0] at hx
  have hsm := hl s (List.mem_of_getElem? hx)
  have h1 := zKt f g false ns us sp s hs hu hw hsm
  have hge := zQx hx
  have hres : ¬ zDQ ns us sp s = 0 → zDr ns us sp l = zDQ ns us sp s := fun h => by
   have hdl := List.drop_eq_getElem_cons (i := i) (l := l) (by omega)
   rw [zHG hz, hdl, hs0, zDr, if_neg h]
  unfold zSu at h1
  obtain ⟨m, hm⟩ : ∃ m, zCQ ns us sp = m := ⟨_, rfl⟩
  obtain ⟨b, hb⟩ : ∃ b, zEV us.length sp s = b := ⟨_, rfl⟩
  have hms : zDQ ns us sp s = if m = 0 then if b = true then 0 else 9 else m := by unfold zDQ; rw [hm, hb]
  rw [hm, hb] at h1
  simp only [zAT, spF] at hge h1
  by_cases h0 : m = 0
  ·subst h0
   rw [decide_eq_true rfl, Bool.true_and] at h1
   rw [if_pos rfl] at hms
   cases b
   ·rw [if_neg (by simp)] at hms
    rw [hres (by rw [hms]; decide), hms]
    repeat' first | (with_reducible first | refine zA ?_ | refine zB ?_ | refine zb ?_ | refine zAD ?_ | refine zF ?_ | refine zJ ?_ | refine zH ?_) | ((with_reducible refine And.intro ?_ ?_); · exact Sq) | ((first | with_reducible refine zC fun KC J hJ hKC => ?_ | (refine hKC _ _ _ _ _ (zE (h1) rfl rfl rfl ?_ ?_); (· exact Lq))); simp (maxSteps := 9999999) only [push_cast, seval, ↓reduceIte, hlt, hge, bne_self_eq_false]) | ((with_reducible refine hJ _ _ ?_); clear hJ hKC KC J) | ((with_reducible refine zG ?_ ?_); · rfl) | ((with_reducible refine zI ?_ ?_); · rfl)
    refine zD ?_
    simp (maxSteps := 9999999) only [push_cast, seval, ↓reduceIte, show Tryz.f77.results = #[(.tmp 6)] from rfl]
    exact Lq
   ·rw [if_pos rfl] at hms
    repeat' first | (with_reducible first | refine zA ?_ | refine zB ?_ | refine zP ?_ | refine zJ ?_ | refine zH ?_) | ((with_reducible refine And.intro ?_ ?_); · exact Sq) | ((first | with_reducible refine zC fun KC J hJ hKC => ?_ | (refine hKC _ _ _ _ _ (zE (h1) rfl rfl rfl ?_ ?_); (· exact Lq))); simp (maxSteps := 9999999) only [push_cast, seval, ↓reduceIte, hlt, hge, bne_self_eq_false, zo (i := i) (n := l.length) (by omega) (by omega)]) | ((with_reducible refine hJ _ _ ?_); clear hJ hKC KC J) | ((with_reducible refine zG ?_ ?_); · rfl) | ((with_reducible refine zI ?_ ?_); · rfl)
    refine ⟨⟨i + 1, by omega, fun j x hj hjx => ?_⟩, by simp only; omega, ?_, ⟨_, rfl⟩⟩
    ·by_cases hji : j = i
     ·subst hji; rw [hx] at hjx; cases hjx; exact hms
     ·exact hz j x (by omega) hjx
    ·exact Lq
  ·have h0' : (m != 0) = true := by simpa using h0
   rw [if_neg h0] at hms
   rw [hres (by rw [hms]; exact h0), hms]
   repeat' first | (with_reducible first | refine zA ?_ | refine zB ?_ | refine zb ?_ | refine zAD ?_ | refine zF ?_ | refine zJ ?_ | refine zH ?_) | ((with_reducible refine And.intro ?_ ?_); · exact Sq) | ((first | with_reducible refine zC fun KC J hJ hKC => ?_ | (refine hKC _ _ _ _ _ (zE (h1) rfl rfl rfl ?_ ?_); (· exact Lq))); simp (maxSteps := 9999999) only [push_cast, seval, ↓reduceIte, hlt, hge, h0']) | ((with_reducible refine hJ _ _ ?_); clear hJ hKC KC J) | ((with_reducible refine zG ?_ ?_); · rfl)
   refine zD ?_
   simp (maxSteps := 9999999) only [push_cast, seval, ↓reduceIte, show Tryz.f77.results = #[(.tmp 6)] from rfl]
   exact Lq
 ·have hin : i = l.length := by omega
  have hres : zDr ns us sp l = 0 := by rw [zHG hz, hin, List.drop_length]; rfl
  rw [hres]
  repeat' first | (with_reducible first | refine zA ?_ | refine zB ?_ | refine zm ?_ | refine zl ?_ | refine zF ?_ | refine zZ ?_) | ((with_reducible refine zC fun KC J hJ hKC => ?_); simp (maxSteps := 9999999) only [push_cast, seval, ↓reduceIte, hlt]) | ((with_reducible refine hJ _ _ ?_); clear hJ hKC KC J) | ((with_reducible refine zI ?_ ?_); · rfl)
  refine zD ?_
  simp (maxSteps := 9999999) only [push_cast, seval, ↓reduceIte, show Tryz.f77.results = #[(.tmp 6)] from rfl]
  exact Lq
theorem zQq (ns : List ByteArray) (us : List Nat) (sp : Sp) (s : Sta) : zDr ns us sp [s] = zDQ ns us sp s := by
 simp only [zDr]
 split
 ·rename_i h; exact h.symm
 ·rfl
theorem zMQ (f g : Bool) (ns : List ByteArray) (us : List Nat) (sp : Sp) (o : Int) (a b : Sta) (hs : Szs ns) (hu : U32 us) (hw : sp.ws.length ≤ 1000) (ha : Sml15 a) (hb : Sml15 b) :
  Fn Tryz.prog 79 [.agg [.sl false 1 (zS ns), .sl false 1 (zR us)], .agg (spF false sp), .v (.int .i64 o), .agg (zAT false false false false a), .agg (zAT false false false false b)] [] (.v (.int .i64 (zDU ns us sp o a b))) [] := by
 have h1 := zPJ false false true ns us sp [a, b] hs hu hw (by intro s hs; simp at hs; rcases hs with rfl | rfl; exact ha.sml; exact hb.sml) (by simp)
 have h2 := zLK ns us o a b hs hu ha hb
 obtain ⟨m, hm⟩ : ∃ m, zDr ns us sp [a, b] = m := ⟨_, rfl⟩
 have hbo : zDU ns us sp o a b = if m = 0 then if zDL ns us o a b = 0 ∧ zCE us o.toNat a b = true then 0 else 9 else m := by
  rw [← hm]
  by_cases h0 : zCQ ns us sp = 0
  ·by_cases x1 : zEV us.length sp a = true
   ·have e1 : zDQ ns us sp a = 0 := by unfold zDQ; rw [if_pos h0, if_pos x1]
    by_cases x2 : zEV us.length sp b = true
    ·have e2 : zDQ ns us sp b = 0 := by unfold zDQ; rw [if_pos h0, if_pos x2]
     have e3 : zDr ns us sp [a, b] = 0 := by unfold zDr zDr zDr; rw [if_pos e1, if_pos e2]
     unfold zDU
     rw [e3, if_pos h0, if_pos ⟨x1, x2⟩, if_pos rfl]
    ·have e2 : zDQ ns us sp b = 9 := by unfold zDQ; rw [if_pos h0, if_neg x2]
     have e3 : zDr ns us sp [a, b] = 9 := by unfold zDr zDr; rw [if_pos e1, if_neg (by rw [e2]; decide), e2]
     unfold zDU
     rw [e3, if_pos h0, if_neg (fun h => x2 h.2)]
     rfl
   ·have e1 : zDQ ns us sp a = 9 := by unfold zDQ; rw [if_pos h0, if_neg x1]
    have e3 : zDr ns us sp [a, b] = 9 := by unfold zDr; rw [if_neg (by rw [e1]; decide), e1]
    unfold zDU
    rw [e3, if_pos h0, if_neg (fun h => x1 h.1)]
    rfl
  ·have e1 : zDQ ns us sp a = zCQ ns us sp := by unfold zDQ; rw [if_neg h0]
   have e3 : zDr ns us sp [a, b] = zCQ ns us sp := by unfold zDr; rw [if_neg (by rw [e1]; exact h0), e1]
   unfold zDU
   rw [e3, if_neg h0, if_neg h0]
 rw [hbo]
 rw [hm] at h1
 obtain ⟨e, he⟩ : ∃ e, zDL ns us o a b = e := ⟨_, rfl⟩
 obtain ⟨t, ht⟩ : ∃ t, zCE us o.toNat a b = t := ⟨_, rfl⟩
 rw [he, ht] at h2 ⊢
 simp only [zEA, List.map_cons, List.map_nil, zAT, spF] at h1 h2 ⊢
 refine Fn.of (fn := Tryz.f79) (by kernel_rfl) rfl (by kernel_rfl) ⟨[.agg [.sl false 1 (zS ns), .sl false 1 (zR us)], .agg [.v (.int .i64 sp.code), .v (.int .i64 sp.mem), .v (.int .i64 sp.stack), .v (.int .i64 sp.val), .sl false 1 (zM sp.ws)], .v (.int .i64 o), .agg [.v (.int .i64 a.v), .v (.int .i64 a.l), .sl false 3 (zr a.code), .sl false 2 (za a.mem), .sl false 3 (zj a.stack), .sl false 2 (za a.out)], .agg [.v (.int .i64 b.v), .v (.int .i64 b.l), .sl false 3 (zr b.code), .sl false 2 (za b.mem), .sl false 3 (zj b.stack), .sl false 2 (za b.out)], .v undef, .v undef, .v undef, .v undef, .v undef, .v undef, .v undef, .v undef, .v undef, .v undef, .v undef, .v undef, .v undef, .v undef, .v undef, .v undef, .v undef, .v undef, .v undef, .v undef, .v undef, .v undef, .v undef, .v undef, .v undef, .v undef, .v undef, .v undef, .v undef, .v undef, .v undef, .v undef], []⟩ rfl ?_
 by_cases h0 : m = 0
 ·subst h0
  rw [if_pos rfl]
  by_cases e0 : e = 0
  ·subst e0
   rw [decide_eq_true rfl, Bool.true_and] at h2
   cases t
   ·rw [if_neg (by simp)]
    repeat' first | (with_reducible first | refine zA ?_ | refine zB ?_ | refine zb ?_ | refine zF ?_ | refine zJ ?_) | ((first | with_reducible refine zC fun KC J hJ hKC => ?_ | (refine hKC _ _ _ _ _ (zE (h1) rfl rfl rfl ?_ ?_); (· exact Lq)) | (refine hKC _ _ _ _ _ (zE (h2) rfl rfl rfl ?_ ?_); (· exact Lq))); simp (maxSteps := 9999999) only [push_cast, seval, ↓reduceIte, bne_self_eq_false, undef]) | ((with_reducible refine hJ _ _ ?_); clear hJ hKC KC J) | ((with_reducible refine zG ?_ ?_); · rfl) | ((with_reducible refine zI ?_ ?_); · rfl)
    refine zD ?_
    simp (maxSteps := 9999999) only [push_cast, seval, ↓reduceIte, show Tryz.f79.results = #[(.tmp 10)] from rfl]
    exact Lq
   ·rw [if_pos ⟨rfl, rfl⟩]
    repeat' first | (with_reducible first | refine zA ?_ | refine zB ?_ | refine zF ?_ | refine zJ ?_) | ((first | with_reducible refine zC fun KC J hJ hKC => ?_ | (refine hKC _ _ _ _ _ (zE (h1) rfl rfl rfl ?_ ?_); (· exact Lq)) | (refine hKC _ _ _ _ _ (zE (h2) rfl rfl rfl ?_ ?_); (· exact Lq))); simp (maxSteps := 9999999) only [push_cast, seval, ↓reduceIte, bne_self_eq_false, undef]) | ((with_reducible refine hJ _ _ ?_); clear hJ hKC KC J) | ((with_reducible refine zI ?_ ?_); · rfl)
    refine zD ?_
    simp (maxSteps := 9999999) only [push_cast, seval, ↓reduceIte, show Tryz.f79.results = #[(.tmp 10)] from rfl]
    exact Lq
  ·have e0' : (e != 0) = true := by simpa using e0
   rw [decide_eq_false e0, Bool.false_and] at h2
   rw [if_neg (fun h => e0 h.1)]
   repeat' first | (with_reducible first | refine zA ?_ | refine zB ?_ | refine zb ?_ | refine zF ?_ | refine zJ ?_) | ((first | with_reducible refine zC fun KC J hJ hKC => ?_ | (refine hKC _ _ _ _ _ (zE (h1) rfl rfl rfl ?_ ?_); (· exact Lq)) | (refine hKC _ _ _ _ _ (zE (h2) rfl rfl rfl ?_ ?_); (· exact Lq))); simp (maxSteps := 9999999) only [push_cast, seval, ↓reduceIte, bne_self_eq_false, e0', undef]) | ((with_reducible refine hJ _ _ ?_); clear hJ hKC KC J) | ((with_reducible refine zG ?_ ?_); · rfl) | ((with_reducible refine zI ?_ ?_); · rfl)
   refine zD ?_
   simp (maxSteps := 9999999) only [push_cast, seval, ↓reduceIte, show Tryz.f79.results = #[(.tmp 10)] from rfl]
   exact Lq
 ·have h0' : (m != 0) = true := by simpa using h0
  rw [if_neg h0]
  repeat' first | (with_reducible first | refine zA ?_ | refine zB ?_ | refine zb ?_ | refine zF ?_) | ((first | with_reducible refine zC fun KC J hJ hKC => ?_ | (refine hKC _ _ _ _ _ (zE (h1) rfl rfl rfl ?_ ?_); (· exact Lq))); simp (maxSteps := 9999999) only [push_cast, seval, ↓reduceIte, h0']) | ((with_reducible refine hJ _ _ ?_); clear hJ hKC KC J) | ((with_reducible refine zG ?_ ?_); · rfl)
  refine zD ?_
  simp (maxSteps := 9999999) only [push_cast, seval, ↓reduceIte, show Tryz.f79.results = #[(.tmp 10)] from rfl]
  exact Lq
def mvK (x y : Nat) : Nat → Option Nat := fun k => match Nat.beq k x with
 | true => some y
 | false => some k
def zIg (x y : Nat) (st : St) : St := ⟨st.fr.map (ren (mvK x y)), ((st.σ.map (zK (mvK x y))).set y (zK (mvK x y) (zAZ st.σ x))).set x .dead⟩
theorem zVJ (x y : Nat) : mvK x y x = some y := by simp [mvK]
theorem zUd {x y k : Nat} (h : k ≠ x) : mvK x y k = some k := by
 have : Nat.beq k x = false := by
  cases hb : Nat.beq k x with
  | false => rfl
  | true => exact absurd (Nat.eq_of_beq_eq_true hb) h
 simp [mvK, this]
theorem Rel.moveK {B : Base} {st : St} {a : Act} {w : World} {x y : Nat} {e : Ent} (h : Rel B st a w) (hx : zAZ st.σ x = .ent e) (hy : zAZ st.σ y = .free) : Rel B (zIg x y st) a w := by
 obtain ⟨ρ, hp, ⟨hl, hr⟩, hm⟩ := h
 have hx' := zDJ hx
 have hy' := zCH hy
 have hxy : x ≠ y := by rintro rfl; rw [hx'] at hy'; cases hy'
 have hxl := (List.getElem?_eq_some_iff.1 hx').1
 have hyl := (List.getElem?_eq_some_iff.1 hy').1
 obtain ⟨m, hm0⟩ : ∃ m, mvK x y = m := ⟨_, rfl⟩
 have mx : m x = some y := by rw [← hm0]; exact zVJ x y
 have mne : ∀ k, k ≠ x → m k = some k := fun k hk => by rw [← hm0]; exact zUd hk
 let ρ' : Nat → Nat × Nat := fun k => if k = y then ρ x else ρ k
 obtain ⟨σ', hσ'⟩ : ∃ σ', ((st.σ.map (zK m)).set y (zK m (zAZ st.σ x))).set x .dead = σ' := ⟨_, rfl⟩
 have g1 : σ'[x]? = some .dead := by
  rw [← hσ', List.getElem?_set, if_pos rfl, if_pos (by simpa using hxl)]
 have g2 : σ'[y]? = some (.ent { e with cells := e.cells.map (ren m) }) := by
  rw [← hσ', List.getElem?_set, if_neg hxy, List.getElem?_set, if_pos rfl, if_pos (by simpa using hyl), hx]
  rfl
 have g3 : ∀ k, k ≠ x → k ≠ y → σ'[k]? = (st.σ[k]?).map (zK m) := fun k h1 h2 => by
  rw [← hσ', List.getElem?_set, if_neg (fun e => h1 e.symm), List.getElem?_set, if_neg (fun e => h2 e.symm), List.getElem?_map]
 have hent : ∀ k e', σ'[k]? = some (.ent e') → ∃ k0 e0, st.σ[k0]? = some (.ent e0) ∧ ρ' k = ρ k0 ∧ e' = { e0 with cells := e0.cells.map (ren m) } ∧ (k = y ∧ k0 = x ∨ k ≠ y ∧ k ≠ x ∧ k0 = k) := fun k e' he' => by
  by_cases h1 : k = x
  ·subst h1; rw [g1] at he'; cases he'
  by_cases h2 : k = y
  ·subst h2
   rw [g2] at he'
   cases he'
   exact ⟨x, e, hx', if_pos rfl, rfl, .inl ⟨rfl, rfl⟩⟩
  ·rw [g3 k h1 h2] at he'
   cases hs : st.σ[k]? with
   | none => rw [hs] at he'; cases he'
   | some s =>
    rw [hs] at he'
    cases s with
    | free => cases he'
    | dead => cases he'
    | ent e0 =>
     simp only [Option.map_some, zK, Option.some.injEq, Slot.ent.injEq] at he'
     exact ⟨k, e0, hs, if_neg h2, he'.symm, .inr ⟨h2, h1, rfl⟩⟩
 have hlive : ∀ k, live σ' k → ∃ k0, live st.σ k0 ∧ ρ' k = ρ k0 ∧ (k = y ∧ k0 = x ∨ k ≠ y ∧ k ≠ x ∧ k0 = k) := fun k ⟨e', he'⟩ => by
  obtain ⟨k0, e0, h1, h2, _, h4⟩ := hent k e' he'
  exact ⟨k0, ⟨e0, h1⟩, h2, h4⟩
 have huy : ∀ g, ¬ zBo st.σ y g := fun g ⟨s, hs, hg⟩ => by
  rw [hy'] at hs; cases hs; exact hg
 have hused : ∀ k j g, m k = some j → zBo st.σ k g → zBo σ' j g := fun k j g hk hu => by
  by_cases h1 : k = x
  ·subst h1
   rw [mx] at hk
   cases hk
   obtain ⟨s, hs, hg⟩ := hu
   rw [hx'] at hs
   cases hs
   exact ⟨_, g2, hg⟩
  ·rw [mne k h1] at hk
   cases hk
   have h2 : k ≠ y := by rintro rfl; exact huy g hu
   obtain ⟨s, hs, hg⟩ := hu
   exact ⟨_, by rw [g3 k h1 h2, hs]; rfl, zFV.2 hg⟩
 have T : Tr m w (Fz B st.σ ρ w) (Tb st.σ ρ) (zBo st.σ) w (Fz B σ' ρ' w) (Tb σ' ρ') (zBo σ') := {
  hz := fun b hb => ⟨hb.1, hb.2.1, fun k hk => by obtain ⟨k0, h1, h2, _⟩ := hlive k hk; rw [h2]; exact hb.2.2 k0 h1⟩
  hh := fun _ _ _ => rfl
  hU := hused
  ht := fun k j g p hk hu ht => by
   obtain ⟨e', he', hg, hp'⟩ := Tb.live ht
   obtain ⟨k0, e0, h1, h2, h3, h4⟩ := hent j e' he'
   have hk0 : k0 = k := by
    by_cases h5 : k = x
    ·subst h5
     rw [mx] at hk
     cases hk
     rcases h4 with ⟨_, h⟩ | ⟨h, _⟩
     ·exact h
     ·exact absurd rfl h
    ·rw [mne k h5] at hk
     cases hk
     rcases h4 with ⟨h, _⟩ | ⟨_, _, h⟩
     ·subst h; exact absurd hu (huy g)
     ·exact h
   subst hk0
   have := Tb.of (ρ := ρ) h1
   rw [← h2, hp'] at this
   have hge : e0.gen = e'.gen := by rw [h3]
   rw [hge, hg] at this
   exact this }
 have hst : zIg x y st = ⟨st.fr.map (ren m), σ'⟩ := by unfold zIg; rw [hm0, hσ']
 rw [hst]
 refine ⟨ρ', ?_, ⟨by simpa using hl, fun t d hd => ?_⟩, hm⟩
 ·exact {
   ent := fun k e' he' => by
    obtain ⟨k0, e0, h1, h2, h3, _⟩ := hent k e' he'
    rw [h2, h3]
    exact T.entOk (hp.ent k0 e0 h1) rfl
   inj := fun k k' hk hk' he => by
    obtain ⟨k0, h1, h2, h3⟩ := hlive k hk
    obtain ⟨k0', h1', h2', h3'⟩ := hlive k' hk'
    rw [h2, h2'] at he
    have := hp.inj k0 k0' h1 h1' he
    subst this
    rcases h3 with ⟨a1, a2⟩ | ⟨a1, a2, a3⟩ <;> rcases h3' with ⟨b1, b2⟩ | ⟨b1, b2, b3⟩
    ·rw [a1, b1]
    ·exact absurd (b3.symm.trans a2) b2
    ·exact absurd (a3.symm.trans b2) a2
    ·rw [← a3, ← b3]
   nf := fun k hk => by obtain ⟨k0, h1, h2, _⟩ := hlive k hk; rw [h2]; exact hp.nf k0 h1
   own := fun k hk => by obtain ⟨k0, h1, h2, _⟩ := hlive k hk; rw [h2]; exact hp.own k0 h1
   size := hp.size
   os := hp.os
   tape := hp.tape
   output := hp.output
   base := hp.base
   n0 := hp.n0
   m0 := hp.m0
   hist := fun k g hu => by
    obtain ⟨h1, h2⟩ := hp.hist k g hu
    by_cases hk : k = x
    ·subst hk
     refine ⟨⟨_, g1, trivial⟩, fun p ht => ?_⟩
     obtain ⟨e', he', _⟩ := Tb.live ht
     rw [g1] at he'; cases he'
    ·have hky : k ≠ y := by rintro rfl; exact huy g h1
     exact ⟨hused k k g (mne k hk) h1, fun p ht => h2 p (T.ht k k g p (mne k hk) h1 ht)⟩ }
 ·obtain ⟨d0, hd0, rfl⟩ := zAO hd
  obtain ⟨u, a1, a2⟩ := hr t d0 hd0
  exact ⟨u, a1, T.ren a2⟩
theorem zMh {P : Program} {ro : Option Nat} {c : Code} {st : St} {K : Exit → St → Prop} (x y : Nat) (h : AWP P ro c st (fun e s => (∃ e0, zAZ s.σ x = .ent e0) ∧ zAZ s.σ y = .free ∧ K e (zIg x y s))) : AWP P ro c st K :=
 fun B a w hr Q hQ => h B a w hr Q fun e st' a' w' ⟨⟨e0, h1⟩, h2, h3⟩ hr' => hQ e (zIg x y st') a' w' h3 (hr'.moveK h1 h2)
def zUr (k : Option Nat) (n : Nat) : D := match k with
 | some j => eR j n
 | none => if n = 0 then .v (.slice none 0 0) else .any
theorem zDo (m : Nat → Option Nat) (k n : Nat) : ren m (eR k n) = zUr (m k) n := by
 unfold zUr eR
 cases n with
 | zero => cases m k <;> rfl
 | succ n =>
  rw [if_neg (by omega)]
  show (match m k with | some j => D.ref j (n + 1 - 1) (n + 1) | none => .any) = _
  cases m k <;> rfl
theorem zBZ (j n : Nat) : zUr (some j) n = eR j n := rfl
def zBJ (l : List Int) : Slot := if l.length = 0 then .free else .ent ⟨l.length - 1, some 1, 3, zw l, .cells⟩
theorem zBt (m : Nat → Option Nat) (l : List Int) : zK m (zBJ l) = zBJ l := by
 unfold zBJ
 split
 ·rfl
 ·simp only [zK, zAE]
theorem zIo : zBJ [] = .free := rfl
theorem zFS {l : List Int} {j : Nat} (h : l.length = j + 1) : zBJ l = .ent ⟨j, some 1, 3, zw l, .cells⟩ := by
 unfold zBJ
 rw [h, if_neg (by omega)]
 rfl
theorem zIJ (k j : Nat) : eR k (j + 1) = .ref k j (j + 1) := rfl
theorem zOw (k : Nat) : eR k 0 = .v (.slice none 0 0) := rfl
abbrev mkP (q : VQ) (k : Nat) (L : List Int) : Ent := ⟨0, none, 125, [.sl q.f 1 (zS q.ns), .sl q.g 1 (zR q.us), .v (.int .i64 q.sp.code), .v (.int .i64 q.sp.mem), .v (.int .i64 q.sp.stack), .v (.int .i64 q.sp.val), .sl false 1 (zM q.sp.ws), .v (.int .i64 (q.o : Int)), eR k L.length], .cells⟩
theorem zCS (m : Nat → Option Nat) (f : Bool) (z : Nat) (xs : List (List D)) : ren m (.sl f z xs) = .sl f z xs := rfl
theorem zDR (m : Nat → Option Nat) (x : Value) : ren m (.v x) = .v x := rfl
theorem zAY (m : Nat → Option Nat) (g : Nat) (a : Option Nat) (t : TypeId) (c : List D) (k : Kd) : zK m (.ent ⟨g, a, t, c, k⟩) = .ent ⟨g, a, t, c.map (ren m), k⟩ := rfl
theorem zx {q : VQ} {L : List Int} {k0 kr : Nat} {σ : List Slot} (h0 : zAZ σ k0 = .ent (mkP q kr L)) (h1 : zAZ σ kr = zBJ L) (hne : Nat.beq k0 kr = false) : pick [k0, kr] σ = [.ent (mkP q 1 L), zBJ L] := by
 have hb : Nat.beq kr kr = true := Nat.beq_refl kr
 simp only [pick, List.map_cons, List.map_nil, h0, h1, zBt, zAY, mkP, zCS, zDR, zDo, mOf, idx, hne, hb, zBZ, Nat.zero_add]
theorem zAR (q : VQ) (L : List Int) (k0 kr slot : Nat) : zN [k0, kr, slot] [.ent (mkP q 1 L), zBJ L] = [(k0, .ent (mkP q kr L)), (kr, zBJ L)] := by
 simp only [zN, List.map_cons, List.map_nil, zBt, zAY, mkP, zCS, zDR, zDo, zX, List.zip_cons_cons, List.zip_nil_right, List.getElem?_cons_succ, List.getElem?_cons_zero, zBZ]
theorem zGy {P : Program} {fn : Func} {st : St} {q : VQ} {L : List Int} (hr : fn.results = #[]) (h0 : zAZ st.σ 0 = .ent (mkP q 1 L)) (h1 : zAZ st.σ 1 = zBJ L) : zKE P fn 2 (.tup []) [.ent (mkP q 1 L), zBJ L] .normal st :=
 ⟨.inl rfl, [0, 1], True, .tup [], by unfold zHv; rw [hr]; rfl, trivial, by decide, fun k hk => by match k, hk with | 0, _ => rfl | 1, _ => rfl, zx h0 h1 rfl, zL _⟩
theorem zOE {L : List Int} {j : Nat} (h : L.length = j) : (zw L).take j = zw L := List.take_of_length_le (by rw [zAL]; omega)
theorem zAt (q : VQ) (L : List Int) (n : Int) (hL : L.length ≤ 1000) :
  Fn Tryz.prog 173 [.ptr 0 0 0, .v (.int .i64 n)] [.ent (mkP q 1 L), zBJ L] (.tup []) [.ent (mkP q 1 (L ++ [n])), zBJ (L ++ [n])] := by
 have hl : (L ++ [n]).length = L.length + 1 := by simp
 have hca : zw (L ++ [n]) = zw L ++ [.v (.int .i64 n)] := by rw [zEW]; rfl
 rw [zFS hl, hca]
 simp only [mkP]
 rw [hl, zIJ]
 cases hn : L.length with
 | zero =>
  have hL0 := List.length_eq_zero_iff.1 hn
  subst hL0
  rw [zIo, zOw]
  refine Fn.of (fn := Tryz.f173) (by kernel_rfl) rfl (by kernel_rfl) ⟨[.ptr 0 0 0, .v (.int .i64 n), .v undef, .v undef, .v undef, .v undef, .v undef, .v undef, .v undef, .v undef, .v undef, .v undef, .v undef, .v undef], [.ent ⟨0, none, 125, [.sl q.f 1 (zS q.ns), .sl q.g 1 (zR q.us), .v (.int .i64 q.sp.code), .v (.int .i64 q.sp.mem), .v (.int .i64 q.sp.stack), .v (.int .i64 q.sp.val), .sl false 1 (zM q.sp.ws), .v (.int .i64 (q.o : Int)), .v (.slice none 0 0)], .cells⟩, .free]⟩ rfl ?_
  refine zMh 3 1 ?_
  repeat' first | ((with_reducible refine zC fun KC J hJ hKC => ?_); simp (maxSteps := 9999999) only [push_cast, seval, ↓reduceIte]) | ((with_reducible refine hJ _ _ ?_); clear hJ hKC KC J)
  exact ⟨⟨_, rfl⟩, rfl, zGy (q := q) (L := [n]) rfl rfl rfl⟩
 | succ j =>
  refine Fn.of (fn := Tryz.f173) (by kernel_rfl) rfl (by kernel_rfl) ⟨[.ptr 0 0 0, .v (.int .i64 n), .v undef, .v undef, .v undef, .v undef, .v undef, .v undef, .v undef, .v undef, .v undef, .v undef, .v undef, .v undef], [.ent ⟨0, none, 125, [.sl q.f 1 (zS q.ns), .sl q.g 1 (zR q.us), .v (.int .i64 q.sp.code), .v (.int .i64 q.sp.mem), .v (.int .i64 q.sp.stack), .v (.int .i64 q.sp.val), .sl false 1 (zM q.sp.ws), .v (.int .i64 (q.o : Int)), eR 1 (j + 1)], .cells⟩, zBJ L]⟩ rfl ?_
  rw [zFS hn, zIJ]
  have hc : (zw L).length = j + 1 := by rw [zAL, hn]
  have ht := zOE hn
  have hbq : Nat.beq j j = true := Nat.beq_refl j
  repeat' first | ((with_reducible refine And.intro ?_ ?_); · exact Sq) | ((with_reducible refine zC fun KC J hJ hKC => ?_); simp (maxSteps := 9999999) only [push_cast, seval, ↓reduceIte, hc, ht, hn, hbq, Nat.mul_one]) | ((with_reducible refine hJ _ _ ?_); clear hJ hKC KC J)
  refine zRK ?_
  simp (maxSteps := 9999999) only [push_cast, seval, ↓reduceIte, show Tryz.f173.results = #[] from rfl]
  refine ⟨?_, zL _⟩
  simp only [pick, show List.range 2 = [0, 1] from rfl, List.map_cons, List.map_nil, List.map_append, zAZ, zAY, zAE, zCS, zDR, mOf, idx]
  rfl
theorem zDg (q : VQ) (L : List Int) (v : Int) (hL : L.length ≤ 1000) :
  Fn Tryz.prog 172 [.ptr 0 0 0, .v (.int .i64 v)] [.ent (mkP q 1 L), zBJ L] (.tup []) [.ent (mkP q 1 (L ++ [zCd q.sp v])), zBJ (L ++ [zCd q.sp v])] := by
 have hu := zMf q.sp.val v
 have hk := zAt q L (zCd q.sp v) hL
 rw [show (zCZ q.sp.val v).1 = zCd q.sp v from rfl] at hu
 obtain ⟨u, hU⟩ : ∃ u, zCd q.sp v = u := ⟨_, rfl⟩
 rw [hU] at hk hu ⊢
 obtain ⟨L1, hL1⟩ : ∃ l, L ++ [u] = l := ⟨_, rfl⟩
 rw [hL1] at hk ⊢
 refine Fn.of (fn := Tryz.f172) (by kernel_rfl) rfl (by kernel_rfl) ⟨[.ptr 0 0 0, .v (.int .i64 v), .v undef, .v undef, .v undef, .v undef, .v undef, .v undef, .v undef, .v undef, .v undef, .v undef, .v undef, .v undef, .v undef, .v undef, .v undef, .v undef, .v undef], [.ent (mkP q 1 L), zBJ L]⟩ rfl ?_
 simp only [mkP] at hk ⊢
 repeat' first | (with_reducible first | refine zA ?_ | refine zB ?_) | ((first | with_reducible refine zC fun KC J hJ hKC => ?_ | (refine hKC _ _ _ _ _ (zT [0, 1] hk rfl rfl rfl (by decide) (by simp) rfl (zx rfl rfl rfl) Lq ?_)) | (refine hKC _ _ _ _ _ (zE (hu) rfl rfl rfl ?_ ?_); (· exact Lq))); simp (maxSteps := 9999999) only [push_cast, seval, ↓reduceIte, List.cons_append, List.nil_append, zAR, mOf, idx]) | ((with_reducible refine hJ _ _ ?_); clear hJ hKC KC J)
 exact zGy rfl rfl rfl
theorem zJe (q : VQ) (L : List Int) (v : Int) (hL : L.length ≤ 1000) (hw : q.sp.ws.length ≤ 1000) :
  Fn Tryz.prog 174 [.ptr 0 0 0, .v (.int .i64 v)] [.ent (mkP q 1 L), zBJ L] (.tup []) [.ent (mkP q 1 (L ++ [opU q.sp v])), zBJ (L ++ [opU q.sp v])] := by
 have hu := zQw false q.sp.ws v (by omega)
 have hk := zAt q L (opU q.sp v) hL
 rw [show (zFw q.sp.ws v).1 = opU q.sp v from rfl] at hu
 obtain ⟨u, hU⟩ : ∃ u, opU q.sp v = u := ⟨_, rfl⟩
 rw [hU] at hk hu ⊢
 obtain ⟨L1, hL1⟩ : ∃ l, L ++ [u] = l := ⟨_, rfl⟩
 rw [hL1] at hk ⊢
 refine Fn.of (fn := Tryz.f174) (by kernel_rfl) rfl (by kernel_rfl) ⟨[.ptr 0 0 0, .v (.int .i64 v), .v undef, .v undef, .v undef, .v undef, .v undef, .v undef, .v undef, .v undef, .v undef, .v undef, .v undef, .v undef, .v undef, .v undef, .v undef, .v undef, .v undef], [.ent (mkP q 1 L), zBJ L]⟩ rfl ?_
 simp only [mkP] at hk ⊢
 repeat' first | (with_reducible first | refine zA ?_ | refine zB ?_) | ((first | with_reducible refine zC fun KC J hJ hKC => ?_ | (refine hKC _ _ _ _ _ (zT [0, 1] hk rfl rfl rfl (by decide) (by simp) rfl (zx rfl rfl rfl) Lq ?_)) | (refine hKC _ _ _ _ _ (zE (hu) rfl rfl rfl ?_ ?_); (· exact Lq))); simp (maxSteps := 9999999) only [push_cast, seval, ↓reduceIte, List.cons_append, List.nil_append, zAR, mOf, idx]) | ((with_reducible refine hJ _ _ ?_); clear hJ hKC KC J)
 exact zGy rfl rfl rfl
theorem zFT (q : VQ) (L : List Int) (x : Bool × Int × Int) (hL : L.length ≤ 1000) :
  Fn Tryz.prog 176 [.ptr 0 0 0, .agg [.v (.bool x.1), .v (.int .i64 x.2.1), .v (.int .i64 x.2.2)]] [.ent (mkP q 1 L), zBJ L] (.tup []) [.ent (mkP q 1 (L ++ [zCX q.sp x])), zBJ (L ++ [zCX q.sp x])] := by
 obtain ⟨r, v, l⟩ := x
 unfold zCX
 cases r
 ·have hk := zDg q L v hL
  rw [if_neg (by simp)]
  simp only
  obtain ⟨L1, hL1⟩ : ∃ l, L ++ [zCd q.sp v] = l := ⟨_, rfl⟩
  rw [hL1] at hk ⊢
  refine Fn.of (fn := Tryz.f176) (by kernel_rfl) rfl (by kernel_rfl) ⟨[.ptr 0 0 0, .agg [.v (.bool false), .v (.int .i64 v), .v (.int .i64 l)], .v undef, .v undef, .v undef, .v undef, .v undef, .v undef, .v undef, .v undef, .v undef, .v undef, .v undef, .v undef], [.ent (mkP q 1 L), zBJ L]⟩ rfl ?_
  simp only [mkP] at hk ⊢
  repeat' first | (with_reducible first | refine zA ?_ | refine zB ?_) | ((first | with_reducible refine zC fun KC J hJ hKC => ?_ | (refine hKC _ _ _ _ _ (zT [0, 1] hk rfl rfl rfl (by decide) (by simp) rfl (zx rfl rfl rfl) Lq ?_))); simp (maxSteps := 9999999) only [push_cast, seval, ↓reduceIte, List.cons_append, List.nil_append, zAR, mOf, idx]) | ((with_reducible refine hJ _ _ ?_); clear hJ hKC KC J) | ((with_reducible refine zI ?_ ?_); · rfl)
  exact zGy rfl rfl rfl
 ·have hk := zAt q L v hL
  rw [if_pos rfl]
  simp only
  obtain ⟨L1, hL1⟩ : ∃ l, L ++ [v] = l := ⟨_, rfl⟩
  rw [hL1] at hk ⊢
  refine Fn.of (fn := Tryz.f176) (by kernel_rfl) rfl (by kernel_rfl) ⟨[.ptr 0 0 0, .agg [.v (.bool true), .v (.int .i64 v), .v (.int .i64 l)], .v undef, .v undef, .v undef, .v undef, .v undef, .v undef, .v undef, .v undef, .v undef, .v undef, .v undef, .v undef], [.ent (mkP q 1 L), zBJ L]⟩ rfl ?_
  simp only [mkP] at hk ⊢
  repeat' first | (with_reducible first | refine zA ?_ | refine zB ?_) | ((first | with_reducible refine zC fun KC J hJ hKC => ?_ | (refine hKC _ _ _ _ _ (zT [0, 1] hk rfl rfl rfl (by decide) (by simp) rfl (zx rfl rfl rfl) Lq ?_))); simp (maxSteps := 9999999) only [push_cast, seval, ↓reduceIte, List.cons_append, List.nil_append, zAR, mOf, idx]) | ((with_reducible refine hJ _ _ ?_); clear hJ hKC KC J) | ((with_reducible refine zG ?_ ?_); · rfl)
  exact zGy rfl rfl rfl
theorem zOv (q : VQ) (L : List Int) (x : Bool × Int × Int) (hL : L.length ≤ 1000) :
  Fn Tryz.prog 175 [.ptr 0 0 0, .agg [.v (.bool x.1), .v (.int .i64 x.2.1), .v (.int .i64 x.2.2)]] [.ent (mkP q 1 L), zBJ L] (.tup []) [.ent (mkP q 1 (L ++ [zJP x])), zBJ (L ++ [zJP x])] := by
 obtain ⟨r, v, l⟩ := x
 unfold zJP
 cases r
 ·have hk := zAt q L 0 hL
  rw [if_neg (by simp)]
  obtain ⟨L1, hL1⟩ : ∃ l, L ++ [0] = l := ⟨_, rfl⟩
  rw [hL1] at hk ⊢
  refine Fn.of (fn := Tryz.f175) (by kernel_rfl) rfl (by kernel_rfl) ⟨[.ptr 0 0 0, .agg [.v (.bool false), .v (.int .i64 v), .v (.int .i64 l)], .v undef, .v undef, .v undef, .v undef, .v undef, .v undef, .v undef, .v undef], [.ent (mkP q 1 L), zBJ L]⟩ rfl ?_
  simp only [mkP] at hk ⊢
  repeat' first | (with_reducible first | refine zA ?_ | refine zB ?_) | ((first | with_reducible refine zC fun KC J hJ hKC => ?_ | (refine hKC _ _ _ _ _ (zT [0, 1] hk rfl rfl rfl (by decide) (by simp) rfl (zx rfl rfl rfl) Lq ?_))); simp (maxSteps := 9999999) only [push_cast, seval, ↓reduceIte, List.cons_append, List.nil_append, zAR, mOf, idx]) | ((with_reducible refine hJ _ _ ?_); clear hJ hKC KC J) | ((with_reducible refine zI ?_ ?_); · rfl)
  exact zGy rfl rfl rfl
 ·have hk := zAt q L 1 hL
  rw [if_pos rfl]
  obtain ⟨L1, hL1⟩ : ∃ l, L ++ [1] = l := ⟨_, rfl⟩
  rw [hL1] at hk ⊢
  refine Fn.of (fn := Tryz.f175) (by kernel_rfl) rfl (by kernel_rfl) ⟨[.ptr 0 0 0, .agg [.v (.bool true), .v (.int .i64 v), .v (.int .i64 l)], .v undef, .v undef, .v undef, .v undef, .v undef, .v undef, .v undef, .v undef], [.ent (mkP q 1 L), zBJ L]⟩ rfl ?_
  simp only [mkP] at hk ⊢
  repeat' first | (with_reducible first | refine zA ?_ | refine zB ?_) | ((first | with_reducible refine zC fun KC J hJ hKC => ?_ | (refine hKC _ _ _ _ _ (zT [0, 1] hk rfl rfl rfl (by decide) (by simp) rfl (zx rfl rfl rfl) Lq ?_))); simp (maxSteps := 9999999) only [push_cast, seval, ↓reduceIte, List.cons_append, List.nil_append, zAR, mOf, idx]) | ((with_reducible refine hJ _ _ ?_); clear hJ hKC KC J) | ((with_reducible refine zG ?_ ?_); · rfl)
  exact zGy rfl rfl rfl
theorem zVZ {P : Program} {fn : Func} {st : St} {q : VQ} {L : List Int} {d : D} (hr : match zHv P fn st with | some (c, x) => c ∧ leD (ren (mOf [0, 1]) x) d | none => False) (h0 : zAZ st.σ 0 = .ent (mkP q 1 L)) (h1 : zAZ st.σ 1 = zBJ L) : zKE P fn 2 d [.ent (mkP q 1 L), zBJ L] .ret st := by
 split at hr
 ·rename_i c x hx
  exact ⟨.inr rfl, [0, 1], c, x, hx, hr.1, by decide, fun k hk => by match k, hk with | 0, _ => rfl | 1, _ => rfl, zx h0 h1 rfl, hr.2⟩
 ·exact hr.elim
theorem zCv (q : VQ) (hq : VOk q) (L : List Int) (a : Int) (ha : zv q.us.length a = false) :
  Fn Tryz.prog 177 [.ptr 0 0 0, .v (.int .i64 a)] [.ent (mkP q 1 L), zBJ L] (.v (.bool (hid q.us q.o a))) [.ent (mkP q 1 L), zBJ L] := by
 obtain ⟨b, rfl, hb⟩ := zBV ha
 have hf := zHR q.f q.g q.ns q.us b q.o hq.szs hq.u32 hq.chk hb hq.lab
 unfold hid
 rw [Int.toNat_natCast]
 refine Fn.of (fn := Tryz.f177) (by kernel_rfl) rfl (by kernel_rfl) ⟨[.ptr 0 0 0, .v (.int .i64 (b : Int)), .v undef, .v undef, .v undef, .v undef, .v undef, .v undef, .v undef, .v undef, .v undef, .v undef, .v undef, .v undef, .v undef, .v undef, .v undef, .v undef, .v undef, .v undef, .v undef, .v undef], [.ent (mkP q 1 L), zBJ L]⟩ rfl ?_
 simp only [mkP]
 repeat' first | (with_reducible first | refine zA ?_ | refine zB ?_) | ((first | with_reducible refine zC fun KC J hJ hKC => ?_ | with_reducible refine zY rfl fun KC J hJ hKC => ?_ | (refine hKC _ _ _ _ _ (zE (hf) rfl rfl rfl ?_ ?_); (· exact Lq))); simp (maxSteps := 9999999) only [push_cast, seval, ↓reduceIte]) | ((first | with_reducible refine hJ _ _ ?_ | (with_reducible refine hJ _ _ ?_ ?_; · kernel_rfl)); clear hJ hKC KC J)
 refine zF ?_
 refine zVZ ?_ rfl rfl
 simp (maxSteps := 9999999) only [push_cast, seval, ↓reduceIte, show Tryz.f177.results = #[.tmp 4] from rfl]
 exact zL _
theorem zCb {α : Type} {f : α → List Int} {l : List α} {i : Nat} {x : α} (h : l[i]? = some x) : (l.take (i + 1)).flatMap f = (l.take i).flatMap f ++ f x := by
 obtain ⟨hi, rfl⟩ := List.getElem?_eq_some_iff.1 h
 rw [List.take_succ_eq_append_getElem hi, List.flatMap_append]
 simp only [List.flatMap_cons, List.flatMap_nil, List.append_nil]
theorem zBX {α : Type} {f : α → List Int} (h : ∀ x, (f x).length ≤ 3) : ∀ l : List α, (l.flatMap f).length ≤ 3 * l.length
 | [] => by simp
 | x :: l => by
  have := zBX h l
  have := h x
  rw [List.flatMap_cons, List.length_append, List.length_cons]
  omega
theorem zOi (sp : Sp) (x : Int × Int × Int) : (zDP sp x).length ≤ 3 := by
 unfold zDP; split
 ·simp
 ·split <;> simp
theorem zMD (sp : Sp) (x : Int × Int) : (zCh sp x).length ≤ 3 := by simp [zCh]
theorem zMl (sp : Sp) (x : Bool × Int × Int) : (zCf sp x).length ≤ 3 := by simp [zCf]
theorem zQb (q : VQ) (f1 f2 f3 f4 : Bool) (s : Sta) (hw : q.sp.ws.length ≤ 1000) (h1 : s.code.length ≤ 50) (h2 : s.mem.length ≤ 50) (h3 : s.stack.length ≤ 50) :
  Fn Tryz.prog 78 [.ptr 0 0 0, .agg (zAT f1 f2 f3 f4 s)] [.ent (mkP q 1 []), .free] (.tup []) [.ent (mkP q 1 (zBQ q.sp s)), zBJ (zBQ q.sp s)] := by
 have k0 := zAt q [] s.code.length (by simp)
 rw [List.nil_append, zIo] at k0
 obtain ⟨L0, hL0⟩ : ∃ l, [(s.code.length : Int)] = l := ⟨_, rfl⟩
 have hl0 : L0.length = 1 := by rw [← hL0]; rfl
 rw [hL0] at k0
 have hfin : zBQ q.sp s = (((L0 ++ s.code.flatMap (zDP q.sp) ++ [(s.mem.length : Int)]) ++ s.mem.flatMap (zCh q.sp) ++ [(s.stack.length : Int)]) ++ s.stack.flatMap (zCf q.sp) ++ [s.v]) ++ [s.l] := by
  rw [← hL0]; simp [zBQ]
 rw [hfin]
 simp only [zAT]
 refine Fn.of (fn := Tryz.f78) (by kernel_rfl) rfl (by kernel_rfl) ⟨[.ptr 0 0 0, .agg [.v (.int .i64 s.v), .v (.int .i64 s.l), .sl f1 3 (zr s.code), .sl f2 2 (za s.mem), .sl f3 3 (zj s.stack), .sl f4 2 (za s.out)], .v undef, .v undef, .v undef, .v undef, .v undef, .v undef, .v undef, .v undef, .v undef, .v undef, .v undef, .v undef, .v undef, .v undef, .v undef, .v undef, .v undef, .v undef, .v undef, .v undef, .v undef, .v undef, .v undef, .v undef, .v undef, .v undef, .v undef, .v undef, .v undef, .v undef, .v undef, .v undef, .v undef, .v undef, .v undef, .v undef, .v undef, .v undef, .v undef, .v undef, .v undef, .v undef, .v undef, .v undef, .v undef, .v undef, .v undef, .v undef, .v undef, .v undef, .v undef, .v undef, .v undef, .v undef, .v undef, .v undef, .v undef, .v undef, .v undef, .v undef, .v undef, .v undef, .v undef, .v undef, .v undef, .v undef, .v undef, .v undef, .v undef, .v undef, .v undef, .v undef, .v undef, .v undef, .v undef, .v undef, .v undef, .v undef, .v undef, .v undef, .v undef, .v undef, .v undef, .v undef, .v undef, .v undef, .v undef, .v undef, .v undef, .v undef, .v undef, .v undef, .v undef, .v undef, .v undef, .v undef, .v undef, .v undef, .v undef, .v undef, .v undef, .v undef, .v undef, .v undef, .v undef, .v undef, .v undef, .v undef, .v undef, .v undef, .v undef], [.ent (mkP q 1 []), .free]⟩ rfl ?_
 simp only [mkP] at k0 ⊢
 repeat' first | (with_reducible first | refine zA ?_ | refine zB ?_ | refine zH ?_) | ((first | with_reducible refine zC fun KC J hJ hKC => ?_ | (refine hKC _ _ _ _ _ (zT [0, 1] k0 rfl rfl rfl (by decide) (by simp) rfl rfl Lq ?_))); simp (maxSteps := 9999999) only [push_cast, seval, ↓reduceIte, List.cons_append, List.nil_append, zAR, mOf, idx]) | ((with_reducible refine hJ _ _ ?_); clear hJ hKC KC J)
 refine zy 4 (γ := {i : Nat // i ≤ s.code.length}) (fun i => ⟨[.ptr 0 0 0, .any, .any, .ptr 2 0 0, .kref true 3 0, .any, .any, .any, .any, .any, .any, .any, .any, .any, .any, .any, .any, .any, .any, .any, .any, .any, .any, .any, .any, .any, .any, .any, .any, .sl f1 3 (zr s.code), .v (.int .i64 s.code.length), .v (.int .i64 i.1), .any, .any, .any, .any, .any, .any, .any, .any, .any, .any, .any, .any, .any, .any, .any, .any, .any, .any, .any, .any, .any, .any, .any, .any, .any, .any, .any, .any, .any, .any, .any, .any, .any, .any, .any, .any, .any, .any, .any, .any, .any, .any, .any, .any, .any, .any, .any, .any, .any, .any, .any, .any, .any, .any, .any, .any, .any, .any, .any, .any, .any, .any, .any, .any, .any, .any, .any, .any, .any, .any, .any, .any, .any, .any, .any, .any, .any, .any, .any, .any, .any], [.ent (mkP q 1 (L0 ++ (s.code.take i.1).flatMap (zDP q.sp))), zBJ (L0 ++ (s.code.take i.1).flatMap (zDP q.sp)), .ent ⟨0, none, 39, [.v (.int .i64 s.v), .v (.int .i64 s.l), .sl f1 3 (zr s.code), .sl f2 2 (za s.mem), .sl f3 3 (zj s.stack), .sl f4 2 (za s.out)], .cells⟩, .ent ⟨0, none, 234, [.bnd 172 [.ptr 0 0 0], .bnd 173 [.ptr 0 0 0], .bnd 173 [.ptr 0 0 0], .bnd 173 [.ptr 0 0 0]], .map [.int .i64 1, .int .i64 8, .int .i64 9, .int .i64 10]⟩]⟩) (fun i => s.code.length - i.1) ⟨0, by omega⟩ (fun i => rfl) (fun i => ?_) (fun i => rfl) ⟨?_, ?_⟩ ?_
 ·refine zAF ?_
  simp only [List.map_cons, List.map_nil, zAY, zBt, zCS, zDR, zDo, show mOf (List.range 4) 1 = some 1 from rfl, zBZ]
  rfl
 ·exact Lq
 ·simp only [List.take_zero, List.flatMap_nil, List.append_nil]
  exact Fq
 rintro ⟨i, hi⟩
 dsimp only
 by_cases hlt : (i : Int) < (s.code.length : Int)
 ·have hx : s.code[i]? = some s.code[i] := List.getElem?_eq_getElem (by omega)
  obtain ⟨x, hx0⟩ : ∃ x, s.code[i] = x := ⟨_, rfl⟩
  rw [hx0] at hx
  have hst : L0 ++ (s.code.take (i + 1)).flatMap (zDP q.sp) = (L0 ++ (s.code.take i).flatMap (zDP q.sp)) ++ zDP q.sp x := by rw [zCb hx, List.append_assoc]
  have hwn := zo (i := i) (n := s.code.length) (by omega) (by omega)
  have hLl : (L0 ++ (s.code.take i).flatMap (zDP q.sp)).length ≤ 300 := by
   have hb := zBX (zOi q.sp) (s.code.take i)
   rw [List.length_take] at hb
   simp only [List.length_append, List.length_cons, List.length_nil]
   omega
  obtain ⟨L, hL⟩ : ∃ L, L0 ++ (s.code.take i).flatMap (zDP q.sp) = L := ⟨_, rfl⟩
  rw [hL] at hst hLl ⊢
  obtain ⟨c, v, a⟩ := x
  have hge := zCx hx
  simp only at hge
  by_cases e1 : c = 1
  ·subst e1
   rw [show zDP q.sp (1, v, a) = [opU q.sp 1, zCd q.sp v, a] from rfl] at hst
   have g1 := zJe q L 1 (by omega) hw
   obtain ⟨L1, hL1⟩ : ∃ l, L ++ [opU q.sp 1] = l := ⟨_, rfl⟩
   have lL1 : L1.length = L.length + 1 := by rw [← hL1]; simp
   rw [hL1] at g1
   have g2 := zDg q L1 v (by omega)
   obtain ⟨L2, hL2⟩ : ∃ l, L1 ++ [zCd q.sp v] = l := ⟨_, rfl⟩
   have lL2 : L2.length = L1.length + 1 := by rw [← hL2]; simp
   rw [hL2] at g2
   have g3 := zAt q L2 a (by omega)
   obtain ⟨L3, hL3⟩ : ∃ l, L2 ++ [a] = l := ⟨_, rfl⟩
   have lL3 : L3.length = L2.length + 1 := by rw [← hL3]; simp
   rw [hL3] at g3
   have hnew : L ++ [opU q.sp 1, zCd q.sp v, a] = L3 := by rw [← hL3, ← hL2, ← hL1]; try simp only [List.append_assoc, List.cons_append, List.nil_append]
   rw [hnew] at hst
   simp only [mkP] at g1 g2 g3 ⊢
   repeat' first | (with_reducible first | refine zA ?_ | refine zB ?_ | refine zP ?_ | refine zJ ?_ | refine zH ?_) | ((with_reducible refine And.intro ?_ ?_); · exact Sq) | ((first | with_reducible refine zC fun KC J hJ hKC => ?_ | (refine hKC _ _ _ _ _ (zT [0, 1] g1 rfl rfl rfl (by decide) (by simp) rfl (zx rfl rfl rfl) Lq ?_)) | (refine hKC _ _ _ _ _ (zDv [0, 1] g2 rfl rfl rfl (by decide) (by simp) rfl (zx rfl rfl rfl) Lq ?_)) | (refine hKC _ _ _ _ _ (zT [0, 1] g3 rfl rfl rfl (by decide) (by simp) rfl (zx rfl rfl rfl) Lq ?_))); simp (maxSteps := 9999999) only [push_cast, seval, ↓reduceIte, hlt, hge, hwn, beq_self_eq_true, List.cons_append, List.nil_append, zAR, mOf, idx]) | ((with_reducible refine hJ _ _ ?_); clear hJ hKC KC J) | ((with_reducible refine zG ?_ ?_); · rfl)
   refine ⟨⟨i + 1, by omega⟩, by simp only; omega, ?_, ?_⟩
   ·exact Lq
   ·simp only [hst]; exact ⟨_, rfl⟩
  have e1' : (c == 1) = false := by simpa using e1
  by_cases e8 : c = 8
  ·subst e8
   rw [show zDP q.sp (8, v, a) = [opU q.sp 8, v] from rfl] at hst
   have g1 := zJe q L 8 (by omega) hw
   obtain ⟨L1, hL1⟩ : ∃ l, L ++ [opU q.sp 8] = l := ⟨_, rfl⟩
   have lL1 : L1.length = L.length + 1 := by rw [← hL1]; simp
   rw [hL1] at g1
   have g2 := zAt q L1 v (by omega)
   obtain ⟨L2, hL2⟩ : ∃ l, L1 ++ [v] = l := ⟨_, rfl⟩
   have lL2 : L2.length = L1.length + 1 := by rw [← hL2]; simp
   rw [hL2] at g2
   have hnew : L ++ [opU q.sp 8, v] = L2 := by rw [← hL2, ← hL1]; try simp only [List.append_assoc, List.cons_append, List.nil_append]
   rw [hnew] at hst
   simp only [mkP] at g1 g2 ⊢
   repeat' first | (with_reducible first | refine zA ?_ | refine zB ?_ | refine zP ?_ | refine zJ ?_ | refine zH ?_) | ((with_reducible refine And.intro ?_ ?_); · exact Sq) | ((first | with_reducible refine zC fun KC J hJ hKC => ?_ | (refine hKC _ _ _ _ _ (zT [0, 1] g1 rfl rfl rfl (by decide) (by simp) rfl (zx rfl rfl rfl) Lq ?_)) | (refine hKC _ _ _ _ _ (zDv [0, 1] g2 rfl rfl rfl (by decide) (by simp) rfl (zx rfl rfl rfl) Lq ?_))); simp (maxSteps := 9999999) only [push_cast, seval, ↓reduceIte, hlt, hge, hwn, beq_self_eq_true, List.cons_append, List.nil_append, zAR, mOf, idx]) | ((with_reducible refine hJ _ _ ?_); clear hJ hKC KC J) | ((with_reducible refine zG ?_ ?_); · rfl) | ((with_reducible refine zI ?_ ?_); · rfl)
   refine ⟨⟨i + 1, by omega⟩, by simp only; omega, ?_, ?_⟩
   ·exact Lq
   ·simp only [hst]; exact ⟨_, rfl⟩
  have e8' : (c == 8) = false := by simpa using e8
  by_cases e9 : c = 9
  ·subst e9
   rw [show zDP q.sp (9, v, a) = [opU q.sp 9, v] from rfl] at hst
   have g1 := zJe q L 9 (by omega) hw
   obtain ⟨L1, hL1⟩ : ∃ l, L ++ [opU q.sp 9] = l := ⟨_, rfl⟩
   have lL1 : L1.length = L.length + 1 := by rw [← hL1]; simp
   rw [hL1] at g1
   have g2 := zAt q L1 v (by omega)
   obtain ⟨L2, hL2⟩ : ∃ l, L1 ++ [v] = l := ⟨_, rfl⟩
   have lL2 : L2.length = L1.length + 1 := by rw [← hL2]; simp
   rw [hL2] at g2
   have hnew : L ++ [opU q.sp 9, v] = L2 := by rw [← hL2, ← hL1]; try simp only [List.append_assoc, List.cons_append, List.nil_append]
   rw [hnew] at hst
   simp only [mkP] at g1 g2 ⊢
   repeat' first | (with_reducible first | refine zA ?_ | refine zB ?_ | refine zP ?_ | refine zJ ?_ | refine zH ?_) | ((with_reducible refine And.intro ?_ ?_); · exact Sq) | ((first | with_reducible refine zC fun KC J hJ hKC => ?_ | (refine hKC _ _ _ _ _ (zT [0, 1] g1 rfl rfl rfl (by decide) (by simp) rfl (zx rfl rfl rfl) Lq ?_)) | (refine hKC _ _ _ _ _ (zDv [0, 1] g2 rfl rfl rfl (by decide) (by simp) rfl (zx rfl rfl rfl) Lq ?_))); simp (maxSteps := 9999999) only [push_cast, seval, ↓reduceIte, hlt, hge, hwn, beq_self_eq_true, List.cons_append, List.nil_append, zAR, mOf, idx]) | ((with_reducible refine hJ _ _ ?_); clear hJ hKC KC J) | ((with_reducible refine zG ?_ ?_); · rfl) | ((with_reducible refine zI ?_ ?_); · rfl)
   refine ⟨⟨i + 1, by omega⟩, by simp only; omega, ?_, ?_⟩
   ·exact Lq
   ·simp only [hst]; exact ⟨_, rfl⟩
  have e9' : (c == 9) = false := by simpa using e9
  by_cases e10 : c = 10
  ·subst e10
   rw [show zDP q.sp (10, v, a) = [opU q.sp 10, v] from rfl] at hst
   have g1 := zJe q L 10 (by omega) hw
   obtain ⟨L1, hL1⟩ : ∃ l, L ++ [opU q.sp 10] = l := ⟨_, rfl⟩
   have lL1 : L1.length = L.length + 1 := by rw [← hL1]; simp
   rw [hL1] at g1
   have g2 := zAt q L1 v (by omega)
   obtain ⟨L2, hL2⟩ : ∃ l, L1 ++ [v] = l := ⟨_, rfl⟩
   have lL2 : L2.length = L1.length + 1 := by rw [← hL2]; simp
   rw [hL2] at g2
   have hnew : L ++ [opU q.sp 10, v] = L2 := by rw [← hL2, ← hL1]; try simp only [List.append_assoc, List.cons_append, List.nil_append]
   rw [hnew] at hst
   simp only [mkP] at g1 g2 ⊢
   repeat' first | (with_reducible first | refine zA ?_ | refine zB ?_ | refine zP ?_ | refine zJ ?_ | refine zH ?_) | ((with_reducible refine And.intro ?_ ?_); · exact Sq) | ((first | with_reducible refine zC fun KC J hJ hKC => ?_ | (refine hKC _ _ _ _ _ (zT [0, 1] g1 rfl rfl rfl (by decide) (by simp) rfl (zx rfl rfl rfl) Lq ?_)) | (refine hKC _ _ _ _ _ (zDv [0, 1] g2 rfl rfl rfl (by decide) (by simp) rfl (zx rfl rfl rfl) Lq ?_))); simp (maxSteps := 9999999) only [push_cast, seval, ↓reduceIte, hlt, hge, hwn, beq_self_eq_true, List.cons_append, List.nil_append, zAR, mOf, idx]) | ((with_reducible refine hJ _ _ ?_); clear hJ hKC KC J) | ((with_reducible refine zG ?_ ?_); · rfl) | ((with_reducible refine zI ?_ ?_); · rfl)
   refine ⟨⟨i + 1, by omega⟩, by simp only; omega, ?_, ?_⟩
   ·exact Lq
   ·simp only [hst]; exact ⟨_, rfl⟩
  have e10' : (c == 10) = false := by simpa using e10
  rw [show zDP q.sp (c, v, a) = [opU q.sp c] by unfold zDP; simp only [if_neg e1, if_neg (show ¬ (c = 8 ∨ c = 9 ∨ c = 10) from fun h => by rcases h with h | h | h <;> contradiction)]] at hst
  have g1 := zJe q L c (by omega) hw
  obtain ⟨L1, hL1⟩ : ∃ l, L ++ [opU q.sp c] = l := ⟨_, rfl⟩
  have lL1 : L1.length = L.length + 1 := by rw [← hL1]; simp
  rw [hL1] at g1
  have hnew : L ++ [opU q.sp c] = L1 := by rw [← hL1]; try simp only [List.append_assoc, List.cons_append, List.nil_append]
  rw [hnew] at hst
  simp only [mkP] at g1 ⊢
  repeat' first | (with_reducible first | refine zA ?_ | refine zB ?_ | refine zP ?_ | refine zJ ?_ | refine zH ?_) | ((with_reducible refine And.intro ?_ ?_); · exact Sq) | ((first | with_reducible refine zC fun KC J hJ hKC => ?_ | (refine hKC _ _ _ _ _ (zT [0, 1] g1 rfl rfl rfl (by decide) (by simp) rfl (zx rfl rfl rfl) Lq ?_))); simp (maxSteps := 9999999) only [push_cast, seval, ↓reduceIte, hlt, hge, hwn, e1', e8', e9', e10', List.cons_append, List.nil_append, zAR, mOf, idx]) | ((with_reducible refine hJ _ _ ?_); clear hJ hKC KC J) | ((with_reducible refine zG ?_ ?_); · rfl) | ((with_reducible refine zI ?_ ?_); · rfl)
  refine ⟨⟨i + 1, by omega⟩, by simp only; omega, ?_, ?_⟩
  ·exact Lq
  ·simp only [hst]; exact ⟨_, rfl⟩
 have hin : i = s.code.length := by omega
 have hend : L0 ++ (s.code.take i).flatMap (zDP q.sp) = L0 ++ s.code.flatMap (zDP q.sp) := by rw [hin, List.take_length]
 rw [hend]
 obtain ⟨A1, hA1⟩ : ∃ l, L0 ++ s.code.flatMap (zDP q.sp) = l := ⟨_, rfl⟩
 have lA1 : A1.length ≤ L0.length + 3 * s.code.length := by
  have hb := zBX (zOi q.sp) s.code
  rw [← hA1, List.length_append]; omega
 have k1 := zAt q A1 (s.mem.length : Int) (by omega)
 rw [hA1] at ⊢
 obtain ⟨A2, hA2⟩ : ∃ l, A1 ++ [(s.mem.length : Int)] = l := ⟨_, rfl⟩
 have lA2 : A2.length = A1.length + 1 := by rw [← hA2]; simp
 rw [hA2] at k1
 simp only [mkP, hA2] at k1 ⊢
 repeat' first | (with_reducible first | refine zA ?_ | refine zB ?_ | refine zm ?_ | refine zl ?_ | refine zZ ?_ | refine zH ?_) | ((first | with_reducible refine zC fun KC J hJ hKC => ?_ | (refine hKC _ _ _ _ _ (zT [0, 1] k1 rfl rfl rfl (by decide) (by simp) rfl (zx rfl rfl rfl) Lq ?_))); simp (maxSteps := 9999999) only [push_cast, seval, ↓reduceIte, hlt, Int.lt_irrefl, List.cons_append, List.nil_append, zAR, mOf, idx]) | ((with_reducible refine hJ _ _ ?_); clear hJ hKC KC J) | ((with_reducible refine zI ?_ ?_); · rfl)
 refine zy 4 (γ := {i : Nat // i ≤ s.mem.length}) (fun i => ⟨[.ptr 0 0 0, .any, .any, .ptr 2 0 0, .kref true 3 0, .any, .any, .any, .any, .any, .any, .any, .any, .any, .any, .any, .any, .any, .any, .any, .any, .any, .any, .any, .any, .any, .any, .any, .any, .any, .any, .any, .any, .any, .any, .any, .any, .any, .any, .any, .any, .any, .any, .any, .any, .any, .any, .any, .any, .any, .any, .any, .any, .any, .any, .any, .any, .any, .any, .any, .any, .any, .any, .any, .any, .sl f2 2 (za s.mem), .v (.int .i64 s.mem.length), .v (.int .i64 i.1), .any, .any, .any, .any, .any, .any, .any, .any, .any, .any, .any, .any, .any, .any, .any, .any, .any, .any, .any, .any, .any, .any, .any, .any, .any, .any, .any, .any, .any, .any, .any, .any, .any, .any, .any, .any, .any, .any, .any, .any, .any, .any, .any, .any, .any], [.ent (mkP q 1 (A2 ++ (s.mem.take i.1).flatMap (zCh q.sp))), zBJ (A2 ++ (s.mem.take i.1).flatMap (zCh q.sp)), .ent ⟨0, none, 39, [.v (.int .i64 s.v), .v (.int .i64 s.l), .sl f1 3 (zr s.code), .sl f2 2 (za s.mem), .sl f3 3 (zj s.stack), .sl f4 2 (za s.out)], .cells⟩, .ent ⟨0, none, 234, [.bnd 172 [.ptr 0 0 0], .bnd 173 [.ptr 0 0 0], .bnd 173 [.ptr 0 0 0], .bnd 173 [.ptr 0 0 0]], .map [.int .i64 1, .int .i64 8, .int .i64 9, .int .i64 10]⟩]⟩) (fun i => s.mem.length - i.1) ⟨0, by omega⟩ (fun i => rfl) (fun i => ?_) (fun i => rfl) ⟨?_, ?_⟩ ?_
 ·refine zAF ?_
  simp only [List.map_cons, List.map_nil, zAY, zBt, zCS, zDR, zDo, show mOf (List.range 4) 1 = some 1 from rfl, zBZ]
  rfl
 ·exact Lq
 ·simp only [List.take_zero, List.flatMap_nil, List.append_nil]
  exact Fq
 rintro ⟨i, hi⟩
 dsimp only
 by_cases hlt : (i : Int) < (s.mem.length : Int)
 ·have hx : s.mem[i]? = some s.mem[i] := List.getElem?_eq_getElem (by omega)
  obtain ⟨x, hx0⟩ : ∃ x, s.mem[i] = x := ⟨_, rfl⟩
  rw [hx0] at hx
  have hst : A2 ++ (s.mem.take (i + 1)).flatMap (zCh q.sp) = (A2 ++ (s.mem.take i).flatMap (zCh q.sp)) ++ zCh q.sp x := by rw [zCb hx, List.append_assoc]
  have hwn := zo (i := i) (n := s.mem.length) (by omega) (by omega)
  have hLl : (A2 ++ (s.mem.take i).flatMap (zCh q.sp)).length ≤ 520 := by
   have hb := zBX (zMD q.sp) (s.mem.take i)
   rw [List.length_take] at hb
   simp only [List.length_append, List.length_cons, List.length_nil]
   omega
  obtain ⟨L, hL⟩ : ∃ L, A2 ++ (s.mem.take i).flatMap (zCh q.sp) = L := ⟨_, rfl⟩
  rw [hL] at hst hLl ⊢
  obtain ⟨v, a⟩ := x
  have hge := zBn hx
  simp only at hge
  rw [show zCh q.sp (v, a) = [zCd q.sp v, a] from rfl] at hst
  have g1 := zDg q L v (by omega)
  obtain ⟨L1, hL1⟩ : ∃ l, L ++ [zCd q.sp v] = l := ⟨_, rfl⟩
  have lL1 : L1.length = L.length + 1 := by rw [← hL1]; simp
  rw [hL1] at g1
  have g2 := zAt q L1 a (by omega)
  obtain ⟨L2, hL2⟩ : ∃ l, L1 ++ [a] = l := ⟨_, rfl⟩
  have lL2 : L2.length = L1.length + 1 := by rw [← hL2]; simp
  rw [hL2] at g2
  have hnew : L ++ [zCd q.sp v, a] = L2 := by rw [← hL2, ← hL1]; try simp only [List.append_assoc, List.cons_append, List.nil_append]
  rw [hnew] at hst
  simp only [mkP] at g1 g2 ⊢
  repeat' first | (with_reducible first | refine zA ?_ | refine zB ?_ | refine zP ?_ | refine zJ ?_ | refine zH ?_) | ((with_reducible refine And.intro ?_ ?_); · exact Sq) | ((first | with_reducible refine zC fun KC J hJ hKC => ?_ | (refine hKC _ _ _ _ _ (zT [0, 1] g1 rfl rfl rfl (by decide) (by simp) rfl (zx rfl rfl rfl) Lq ?_)) | (refine hKC _ _ _ _ _ (zT [0, 1] g2 rfl rfl rfl (by decide) (by simp) rfl (zx rfl rfl rfl) Lq ?_))); simp (maxSteps := 9999999) only [push_cast, seval, ↓reduceIte, hlt, hge, hwn, List.cons_append, List.nil_append, zAR, mOf, idx]) | ((with_reducible refine hJ _ _ ?_); clear hJ hKC KC J) | ((with_reducible refine zG ?_ ?_); · rfl)
  refine ⟨⟨i + 1, by omega⟩, by simp only; omega, ?_, ?_⟩
  ·exact Lq
  ·simp only [hst]; exact ⟨_, rfl⟩
 have hin : i = s.mem.length := by omega
 have hend : A2 ++ (s.mem.take i).flatMap (zCh q.sp) = A2 ++ s.mem.flatMap (zCh q.sp) := by rw [hin, List.take_length]
 rw [hend]
 obtain ⟨A3, hA3⟩ : ∃ l, A2 ++ s.mem.flatMap (zCh q.sp) = l := ⟨_, rfl⟩
 have lA3 : A3.length ≤ A2.length + 3 * s.mem.length := by
  have hb := zBX (zMD q.sp) s.mem
  rw [← hA3, List.length_append]; omega
 have k2 := zAt q A3 (s.stack.length : Int) (by omega)
 rw [hA3] at ⊢
 obtain ⟨A4, hA4⟩ : ∃ l, A3 ++ [(s.stack.length : Int)] = l := ⟨_, rfl⟩
 have lA4 : A4.length = A3.length + 1 := by rw [← hA4]; simp
 rw [hA4] at k2
 simp only [mkP, hA4] at k2 ⊢
 repeat' first | (with_reducible first | refine zA ?_ | refine zB ?_ | refine zm ?_ | refine zl ?_ | refine zZ ?_ | refine zH ?_) | ((first | with_reducible refine zC fun KC J hJ hKC => ?_ | (refine hKC _ _ _ _ _ (zT [0, 1] k2 rfl rfl rfl (by decide) (by simp) rfl (zx rfl rfl rfl) Lq ?_))); simp (maxSteps := 9999999) only [push_cast, seval, ↓reduceIte, hlt, Int.lt_irrefl, List.cons_append, List.nil_append, zAR, mOf, idx]) | ((with_reducible refine hJ _ _ ?_); clear hJ hKC KC J) | ((with_reducible refine zI ?_ ?_); · rfl)
 refine zy 4 (γ := {i : Nat // i ≤ s.stack.length}) (fun i => ⟨[.ptr 0 0 0, .any, .any, .ptr 2 0 0, .kref true 3 0, .any, .any, .any, .any, .any, .any, .any, .any, .any, .any, .any, .any, .any, .any, .any, .any, .any, .any, .any, .any, .any, .any, .any, .any, .any, .any, .any, .any, .any, .any, .any, .any, .any, .any, .any, .any, .any, .any, .any, .any, .any, .any, .any, .any, .any, .any, .any, .any, .any, .any, .any, .any, .any, .any, .any, .any, .any, .any, .any, .any, .any, .any, .any, .any, .any, .any, .any, .any, .any, .any, .any, .any, .any, .any, .any, .any, .any, .any, .any, .any, .any, .sl f3 3 (zj s.stack), .v (.int .i64 s.stack.length), .v (.int .i64 i.1), .any, .any, .any, .any, .any, .any, .any, .any, .any, .any, .any, .any, .any, .any, .any, .any, .any, .any, .any, .any, .any, .any, .any, .any], [.ent (mkP q 1 (A4 ++ (s.stack.take i.1).flatMap (zCf q.sp))), zBJ (A4 ++ (s.stack.take i.1).flatMap (zCf q.sp)), .ent ⟨0, none, 39, [.v (.int .i64 s.v), .v (.int .i64 s.l), .sl f1 3 (zr s.code), .sl f2 2 (za s.mem), .sl f3 3 (zj s.stack), .sl f4 2 (za s.out)], .cells⟩, .ent ⟨0, none, 234, [.bnd 172 [.ptr 0 0 0], .bnd 173 [.ptr 0 0 0], .bnd 173 [.ptr 0 0 0], .bnd 173 [.ptr 0 0 0]], .map [.int .i64 1, .int .i64 8, .int .i64 9, .int .i64 10]⟩]⟩) (fun i => s.stack.length - i.1) ⟨0, by omega⟩ (fun i => rfl) (fun i => ?_) (fun i => rfl) ⟨?_, ?_⟩ ?_
 ·refine zAF ?_
  simp only [List.map_cons, List.map_nil, zAY, zBt, zCS, zDR, zDo, show mOf (List.range 4) 1 = some 1 from rfl, zBZ]
  rfl
 ·exact Lq
 ·simp only [List.take_zero, List.flatMap_nil, List.append_nil]
  exact Fq
 rintro ⟨i, hi⟩
 dsimp only
 by_cases hlt : (i : Int) < (s.stack.length : Int)
 ·have hx : s.stack[i]? = some s.stack[i] := List.getElem?_eq_getElem (by omega)
  obtain ⟨x, hx0⟩ : ∃ x, s.stack[i] = x := ⟨_, rfl⟩
  rw [hx0] at hx
  have hst : A4 ++ (s.stack.take (i + 1)).flatMap (zCf q.sp) = (A4 ++ (s.stack.take i).flatMap (zCf q.sp)) ++ zCf q.sp x := by rw [zCb hx, List.append_assoc]
  have hwn := zo (i := i) (n := s.stack.length) (by omega) (by omega)
  have hLl : (A4 ++ (s.stack.take i).flatMap (zCf q.sp)).length ≤ 700 := by
   have hb := zBX (zMl q.sp) (s.stack.take i)
   rw [List.length_take] at hb
   simp only [List.length_append, List.length_cons, List.length_nil]
   omega
  obtain ⟨L, hL⟩ : ∃ L, A4 ++ (s.stack.take i).flatMap (zCf q.sp) = L := ⟨_, rfl⟩
  rw [hL] at hst hLl ⊢
  obtain ⟨r, v, a⟩ := x
  have hge := zBm hx
  simp only at hge
  rw [show zCf q.sp (r, v, a) = [zJP (r, v, a), zCX q.sp (r, v, a), a] from rfl] at hst
  have g1 := zOv q L (r, v, a) (by omega)
  obtain ⟨L1, hL1⟩ : ∃ l, L ++ [zJP (r, v, a)] = l := ⟨_, rfl⟩
  have lL1 : L1.length = L.length + 1 := by rw [← hL1]; simp
  rw [hL1] at g1
  have g2 := zFT q L1 (r, v, a) (by omega)
  obtain ⟨L2, hL2⟩ : ∃ l, L1 ++ [zCX q.sp (r, v, a)] = l := ⟨_, rfl⟩
  have lL2 : L2.length = L1.length + 1 := by rw [← hL2]; simp
  rw [hL2] at g2
  have g3 := zAt q L2 a (by omega)
  obtain ⟨L3, hL3⟩ : ∃ l, L2 ++ [a] = l := ⟨_, rfl⟩
  have lL3 : L3.length = L2.length + 1 := by rw [← hL3]; simp
  rw [hL3] at g3
  have hnew : L ++ [zJP (r, v, a), zCX q.sp (r, v, a), a] = L3 := by rw [← hL3, ← hL2, ← hL1]; try simp only [List.append_assoc, List.cons_append, List.nil_append]
  rw [hnew] at hst
  simp only [mkP] at g1 g2 g3 ⊢
  repeat' first | (with_reducible first | refine zA ?_ | refine zB ?_ | refine zP ?_ | refine zJ ?_ | refine zH ?_) | ((with_reducible refine And.intro ?_ ?_); · exact Sq) | ((first | with_reducible refine zC fun KC J hJ hKC => ?_ | (refine hKC _ _ _ _ _ (zT [0, 1] g1 rfl rfl rfl (by decide) (by simp) rfl (zx rfl rfl rfl) Lq ?_)) | (refine hKC _ _ _ _ _ (zT [0, 1] g2 rfl rfl rfl (by decide) (by simp) rfl (zx rfl rfl rfl) Lq ?_)) | (refine hKC _ _ _ _ _ (zT [0, 1] g3 rfl rfl rfl (by decide) (by simp) rfl (zx rfl rfl rfl) Lq ?_))); simp (maxSteps := 9999999) only [push_cast, seval, ↓reduceIte, hlt, hge, hwn, List.cons_append, List.nil_append, zAR, mOf, idx]) | ((with_reducible refine hJ _ _ ?_); clear hJ hKC KC J) | ((with_reducible refine zG ?_ ?_); · rfl)
  refine ⟨⟨i + 1, by omega⟩, by simp only; omega, ?_, ?_⟩
  ·exact Lq
  ·simp only [hst]; exact ⟨_, rfl⟩
 have hin : i = s.stack.length := by omega
 have hend : A4 ++ (s.stack.take i).flatMap (zCf q.sp) = A4 ++ s.stack.flatMap (zCf q.sp) := by rw [hin, List.take_length]
 rw [hend]
 obtain ⟨A5, hA5⟩ : ∃ l, A4 ++ s.stack.flatMap (zCf q.sp) = l := ⟨_, rfl⟩
 have lA5 : A5.length ≤ A4.length + 3 * s.stack.length := by
  have hb := zBX (zMl q.sp) s.stack
  rw [← hA5, List.length_append]; omega
 have k3 := zAt q A5 s.v (by omega)
 rw [hA5] at ⊢
 obtain ⟨A6, hA6⟩ : ∃ l, A5 ++ [s.v] = l := ⟨_, rfl⟩
 have lA6 : A6.length = A5.length + 1 := by rw [← hA6]; simp
 rw [hA6] at k3
 have k4 := zAt q A6 s.l (by omega)
 obtain ⟨A7, hA7⟩ : ∃ l, A6 ++ [s.l] = l := ⟨_, rfl⟩
 rw [hA7] at k4
 simp only [mkP, hA6, hA7] at k3 k4 ⊢
 repeat' first | (with_reducible first | refine zA ?_ | refine zB ?_ | refine zm ?_ | refine zl ?_ | refine zZ ?_) | ((first | with_reducible refine zC fun KC J hJ hKC => ?_ | (refine hKC _ _ _ _ _ (zT [0, 1] k3 rfl rfl rfl (by decide) (by simp) rfl (zx rfl rfl rfl) Lq ?_)) | (refine hKC _ _ _ _ _ (zT [0, 1] k4 rfl rfl rfl (by decide) (by simp) rfl (zx rfl rfl rfl) Lq ?_))); simp (maxSteps := 9999999) only [push_cast, seval, ↓reduceIte, hlt, Int.lt_irrefl, List.cons_append, List.nil_append, zAR, mOf, idx]) | ((with_reducible refine hJ _ _ ?_); clear hJ hKC KC J) | ((with_reducible refine zI ?_ ?_); · rfl)
 exact zGy rfl rfl rfl
theorem zSN (sp : Sp) (us : List Nat) (o : Nat) (x : Int × Int × Int) : (vIL sp us o x).length ≤ 3 := by unfold vIL; split <;> simp
theorem zRG (sp : Sp) (us : List Nat) (o : Nat) (x : Int × Int) : (vAL sp us o x).length ≤ 3 := by unfold vAL; split <;> simp
theorem zMA (sp : Sp) (us : List Nat) (o : Nat) (x : Bool × Int × Int) : (vSL sp us o x).length ≤ 3 := by unfold vSL; split <;> simp
theorem zMa (sp : Sp) (x : Bool × Int × Int) : (zCc sp x).length ≤ 3 := by simp [zCc]
theorem zPr (us : List Nat) (o i : Nat) : zEu us o ((i + 1 : Nat) : Int) = zEu us o (i : Int) + (if hid us o (i : Int) = true then 1 else 0) := by
 unfold zEu
 rw [Int.toNat_natCast, Int.toNat_natCast, List.range_succ, List.map_append, List.filter_append, List.length_append]
 congr 1
 rw [List.map_cons, List.map_nil, List.filter_cons]
 split <;> rfl
theorem zTT (us : List Nat) (o i : Nat) : zEu us o (i : Int) ≤ i := by
 unfold zEu
 refine Nat.le_trans (List.length_filter_le _ _) ?_
 simp
theorem zKZ (l : List (Bool × Int × Int)) (n : Nat) : (zj l).take n = zj (l.take n) := by simp [zj]
theorem zQh (l : List (Bool × Int × Int)) (n : Nat) : (zj l).drop n = zj (l.drop n) := by simp [zj]
theorem zUK {P : Program} {fn : Func} {st : St} {q : VQ} {L : List Int} (hr : fn.results = #[]) (h0 : zAZ st.σ 0 = .ent (mkP q 1 L)) (h1 : zAZ st.σ 1 = zBJ L) : zKE P fn 2 (.tup []) [.ent (mkP q 1 L), zBJ L] .ret st :=
 ⟨.inr rfl, [0, 1], True, .tup [], by unfold zHv; rw [hr]; rfl, trivial, by decide, fun k hk => by match k, hk with | 0, _ => rfl | 1, _ => rfl, zx h0 h1 rfl, zL _⟩
structure VIn2 (n : Nat) (a b : Sta) : Prop where
 cn : b.code.length ≤ 50
 mn : b.mem.length ≤ 50
 sn : b.stack.length ≤ 50
 cl : ∀ x ∈ b.code, x.1 = 1 → zv n x.2.2 = false
 ml : ∀ x ∈ b.mem, zv n x.2 = false
 sl : ∀ x ∈ b.stack, zv n x.2.2 = false
 al : zv n a.l = false
 bl : zv n b.l = false
theorem zOD (q : VQ) (hq : VOk q) (hul : q.us.length ≤ 100) (f1 f2 f3 f4 g1 g2 g3 g4 : Bool) (a b : Sta) (hab : VIn2 q.us.length a b) :
  Fn Tryz.prog 80 [.ptr 0 0 0, .agg (zAT f1 f2 f3 f4 a), .agg (zAT g1 g2 g3 g4 b)] [.ent (mkP q 1 []), .free] (.tup []) [.ent (mkP q 1 (zAb q.sp q.us q.o a b)), zBJ (zAb q.sp q.us q.o a b)] := by
 obtain ⟨h1, h2, h3, hcL, hmL, hsL, haL, hbL⟩ := hab
 simp only [zAT]
 refine Fn.of (fn := Tryz.f80) (by kernel_rfl) rfl (by kernel_rfl) ⟨[.ptr 0 0 0, .agg [.v (.int .i64 a.v), .v (.int .i64 a.l), .sl f1 3 (zr a.code), .sl f2 2 (za a.mem), .sl f3 3 (zj a.stack), .sl f4 2 (za a.out)], .agg [.v (.int .i64 b.v), .v (.int .i64 b.l), .sl g1 3 (zr b.code), .sl g2 2 (za b.mem), .sl g3 3 (zj b.stack), .sl g4 2 (za b.out)], .v undef, .v undef, .v undef, .v undef, .v undef, .v undef, .v undef, .v undef, .v undef, .v undef, .v undef, .v undef, .v undef, .v undef, .v undef, .v undef, .v undef, .v undef, .v undef, .v undef, .v undef, .v undef, .v undef, .v undef, .v undef, .v undef, .v undef, .v undef, .v undef, .v undef, .v undef, .v undef, .v undef, .v undef, .v undef, .v undef, .v undef, .v undef, .v undef, .v undef, .v undef, .v undef, .v undef, .v undef, .v undef, .v undef, .v undef, .v undef, .v undef, .v undef, .v undef, .v undef, .v undef, .v undef, .v undef, .v undef, .v undef, .v undef, .v undef, .v undef, .v undef, .v undef, .v undef, .v undef, .v undef, .v undef, .v undef, .v undef, .v undef, .v undef, .v undef, .v undef, .v undef, .v undef, .v undef, .v undef, .v undef, .v undef, .v undef, .v undef, .v undef, .v undef, .v undef, .v undef, .v undef, .v undef, .v undef, .v undef, .v undef, .v undef, .v undef, .v undef, .v undef, .v undef, .v undef, .v undef, .v undef, .v undef, .v undef, .v undef, .v undef, .v undef, .v undef, .v undef, .v undef, .v undef, .v undef, .v undef, .v undef, .v undef, .v undef, .v undef, .v undef, .v undef, .v undef, .v undef, .v undef, .v undef, .v undef, .v undef, .v undef, .v undef, .v undef, .v undef, .v undef, .v undef, .v undef, .v undef, .v undef, .v undef, .v undef, .v undef, .v undef, .v undef, .v undef, .v undef, .v undef, .v undef, .v undef, .v undef, .v undef, .v undef, .v undef, .v undef, .v undef], [.ent (mkP q 1 []), .free]⟩ rfl ?_
 simp only [mkP]
 repeat' first | (with_reducible first | refine zA ?_ | refine zB ?_ | refine zH ?_) | ((with_reducible refine zC fun KC J hJ hKC => ?_); simp (maxSteps := 9999999) only [push_cast, seval, ↓reduceIte]) | ((with_reducible refine hJ _ _ ?_); clear hJ hKC KC J)
 refine zy 4 (γ := {i : Nat // i ≤ (b.code).length}) (fun i => ⟨[.ptr 0 0 0, .any, .any, .any, .ptr 2 0 0, .ptr 3 0 0, .any, .any, .any, .any, .any, .any, .any, .any, .any, .any, .any, .any, .any, .any, .any, .sl g1 3 (zr (b.code)), .v (.int .i64 (b.code).length), .v (.int .i64 i.1), .any, .any, .any, .any, .any, .any, .any, .any, .any, .any, .any, .any, .any, .any, .any, .any, .any, .any, .any, .any, .any, .any, .any, .any, .any, .any, .any, .any, .any, .any, .any, .any, .any, .any, .any, .any, .any, .any, .any, .any, .any, .any, .any, .any, .any, .any, .any, .any, .any, .any, .any, .any, .any, .any, .any, .any, .any, .any, .any, .any, .any, .any, .any, .any, .any, .any, .any, .any, .any, .any, .any, .any, .any, .any, .any, .any, .any, .any, .any, .any, .any, .any, .any, .any, .any, .any, .any, .any, .any, .any, .any, .any, .any, .any, .any, .any, .any, .any, .any, .any, .any, .any, .any, .any, .any, .any, .any, .any, .any, .any, .any, .any, .any, .any, .any, .any, .any, .any, .any, .any, .any, .any, .any, .any], [.ent (mkP q 1 (((b.code).take i.1).flatMap (vIL q.sp q.us q.o))), zBJ (((b.code).take i.1).flatMap (vIL q.sp q.us q.o)), .ent ⟨0, none, 39, [.v (.int .i64 a.v), .v (.int .i64 a.l), .sl f1 3 (zr a.code), .sl f2 2 (za a.mem), .sl f3 3 (zj a.stack), .sl f4 2 (za a.out)], .cells⟩, .ent ⟨0, none, 39, [.v (.int .i64 b.v), .v (.int .i64 b.l), .sl g1 3 (zr b.code), .sl g2 2 (za b.mem), .sl g3 3 (zj b.stack), .sl g4 2 (za b.out)], .cells⟩]⟩) (fun i => (b.code).length - i.1) ⟨0, by omega⟩ (fun i => rfl) (fun i => ?_) (fun i => rfl) ⟨?_, ?_⟩ ?_
 ·refine zAF ?_
  simp only [List.map_cons, List.map_nil, zAY, zBt, zCS, zDR, zDo, show mOf (List.range 4) 1 = some 1 from rfl, zBZ]
  rfl
 ·exact Lq
 ·simp only [List.take_zero, List.flatMap_nil, List.append_nil]
  exact Fq
 rintro ⟨i, hi⟩
 dsimp only
 by_cases hlt : (i : Int) < ((b.code).length : Int)
 ·have hx : (b.code)[i]? = some (b.code)[i] := List.getElem?_eq_getElem (by omega)
  obtain ⟨x, hx0⟩ : ∃ x, (b.code)[i] = x := ⟨_, rfl⟩
  rw [hx0] at hx
  have hst : ((b.code).take (i + 1)).flatMap (vIL q.sp q.us q.o) = (((b.code).take i).flatMap (vIL q.sp q.us q.o)) ++ vIL q.sp q.us q.o x := by rw [zCb hx]
  have hwn := zo (i := i) (n := (b.code).length) (by omega) (by omega)
  have hLl : (((b.code).take i).flatMap (vIL q.sp q.us q.o)).length ≤ 150 := by
   have hb := zBX (zSN q.sp q.us q.o) ((b.code).take i)
   rw [List.length_take] at hb
   skip
   omega
  have hlab := hcL x (List.mem_of_getElem? hx)
  obtain ⟨L, hL⟩ : ∃ L, ((b.code).take i).flatMap (vIL q.sp q.us q.o) = L := ⟨_, rfl⟩
  rw [hL] at hst hLl ⊢
  obtain ⟨p, v, c⟩ := x
  have hge := zCx hx
  simp only at hge hlab
  by_cases e1 : p = 1
  ·have e1' : (p == 1) = true := by simpa using e1
   have hh := zCv q hq L c (hlab e1)
   obtain ⟨hb, hhb⟩ : ∃ b, hid q.us q.o c = b := ⟨_, rfl⟩
   rw [hhb] at hh
   cases hb
   case false =>
    rw [show vIL q.sp q.us q.o (p, v, c) = [] by unfold vIL; rw [if_neg (by rw [hhb]; simp)]] at hst
    have hnew : L ++ [] = L := by simp only [List.append_assoc, List.cons_append, List.nil_append, List.append_nil]
    rw [hnew] at hst
    simp only [mkP] at hh ⊢
    repeat' first | (with_reducible first | refine zA ?_ | refine zB ?_ | refine zP ?_ | refine zJ ?_ | refine zH ?_) | ((with_reducible refine And.intro ?_ ?_); · exact Sq) | ((first | with_reducible refine zC fun KC J hJ hKC => ?_ | (refine hKC _ _ _ _ _ (zT [0, 1] hh rfl rfl rfl (by decide) (by simp) rfl (zx rfl rfl rfl) Lq ?_))); simp (maxSteps := 9999999) only [push_cast, seval, ↓reduceIte, hlt, hge, hwn, e1', undef, List.cons_append, List.nil_append, zAR, mOf, idx]) | ((with_reducible refine hJ _ _ ?_); clear hJ hKC KC J) | ((with_reducible refine zG ?_ ?_); · rfl) | ((with_reducible refine zI ?_ ?_); · rfl)
    refine ⟨⟨i + 1, by omega⟩, by simp only; omega, ?_, ?_⟩
    ·exact Lq
    ·simp only [hst]; exact ⟨_, rfl⟩
   case true =>
    rw [show vIL q.sp q.us q.o (p, v, c) = [zCd q.sp v] by unfold vIL; rw [if_pos ⟨e1, hhb⟩]] at hst
    have t1 := zDg q L v (by omega)
    obtain ⟨L1, hL1⟩ : ∃ l, L ++ [zCd q.sp v] = l := ⟨_, rfl⟩
    have lL1 : L1.length = L.length + 1 := by rw [← hL1]; simp
    rw [hL1] at t1
    have hnew : L ++ [zCd q.sp v] = L1 := by rw [← hL1]; try simp only [List.append_assoc, List.cons_append, List.nil_append, List.append_nil]
    rw [hnew] at hst
    simp only [mkP] at t1 hh ⊢
    repeat' first | (with_reducible first | refine zA ?_ | refine zB ?_ | refine zP ?_ | refine zJ ?_ | refine zH ?_) | ((with_reducible refine And.intro ?_ ?_); · exact Sq) | ((first | with_reducible refine zC fun KC J hJ hKC => ?_ | (refine hKC _ _ _ _ _ (zT [0, 1] hh rfl rfl rfl (by decide) (by simp) rfl (zx rfl rfl rfl) Lq ?_)) | (refine hKC _ _ _ _ _ (zT [0, 1] t1 rfl rfl rfl (by decide) (by simp) rfl (zx rfl rfl rfl) Lq ?_))); simp (maxSteps := 9999999) only [push_cast, seval, ↓reduceIte, hlt, hge, hwn, e1', undef, List.cons_append, List.nil_append, zAR, mOf, idx]) | ((with_reducible refine hJ _ _ ?_); clear hJ hKC KC J) | ((with_reducible refine zG ?_ ?_); · rfl)
    refine ⟨⟨i + 1, by omega⟩, by simp only; omega, ?_, ?_⟩
    ·exact Lq
    ·simp only [hst]; exact ⟨_, rfl⟩
  ·have e1' : (p == 1) = false := by simpa using e1
   rw [show vIL q.sp q.us q.o (p, v, c) = [] by unfold vIL; rw [if_neg (fun h => e1 h.1)]] at hst
   have hnew : L ++ [] = L := by simp only [List.append_assoc, List.cons_append, List.nil_append, List.append_nil]
   rw [hnew] at hst
   simp only [mkP]
   repeat' first | (with_reducible first | refine zA ?_ | refine zB ?_ | refine zP ?_ | refine zJ ?_ | refine zH ?_) | ((with_reducible refine And.intro ?_ ?_); · exact Sq) | ((with_reducible refine zC fun KC J hJ hKC => ?_); simp (maxSteps := 9999999) only [push_cast, seval, ↓reduceIte, hlt, hge, hwn, e1', undef, List.cons_append, List.nil_append, zAR, mOf, idx]) | ((with_reducible refine hJ _ _ ?_); clear hJ hKC KC J) | ((with_reducible refine zG ?_ ?_); · rfl) | ((with_reducible refine zI ?_ ?_); · rfl)
   refine ⟨⟨i + 1, by omega⟩, by simp only; omega, ?_, ?_⟩
   ·exact Lq
   ·simp only [hst]; exact ⟨_, rfl⟩
 have hin : i = (b.code).length := by omega
 have hend : ((b.code).take i).flatMap (vIL q.sp q.us q.o) = (b.code).flatMap (vIL q.sp q.us q.o) := by rw [hin, List.take_length]
 rw [hend]
 obtain ⟨A1, hA1⟩ : ∃ l, (b.code).flatMap (vIL q.sp q.us q.o) = l := ⟨_, rfl⟩
 have lA1 : A1.length ≤ 150 := by
  have hb := zBX (zSN q.sp q.us q.o) (b.code)
  rw [← hA1]; (try simp only [List.length_take] at hb); omega
 rw [hA1]
 simp only [mkP]
 repeat' first | (with_reducible first | refine zA ?_ | refine zB ?_ | refine zm ?_ | refine zl ?_ | refine zZ ?_ | refine zH ?_) | ((with_reducible refine zC fun KC J hJ hKC => ?_); simp (maxSteps := 9999999) only [push_cast, seval, ↓reduceIte, hlt, Int.lt_irrefl]) | ((with_reducible refine hJ _ _ ?_); clear hJ hKC KC J) | ((with_reducible refine zI ?_ ?_); · rfl)
 refine zy 4 (γ := {i : Nat // i ≤ (b.mem).length}) (fun i => ⟨[.ptr 0 0 0, .any, .any, .any, .ptr 2 0 0, .ptr 3 0 0, .any, .any, .any, .any, .any, .any, .any, .any, .any, .any, .any, .any, .any, .any, .any, .any, .any, .any, .any, .any, .any, .any, .any, .any, .any, .any, .any, .any, .any, .any, .any, .any, .any, .any, .any, .any, .sl g2 2 (za (b.mem)), .v (.int .i64 (b.mem).length), .v (.int .i64 i.1), .any, .any, .any, .any, .any, .any, .any, .any, .any, .any, .any, .any, .any, .any, .any, .any, .any, .any, .any, .any, .any, .any, .any, .any, .any, .any, .any, .any, .any, .any, .any, .any, .any, .any, .any, .any, .any, .any, .any, .any, .any, .any, .any, .any, .any, .any, .any, .any, .any, .any, .any, .any, .any, .any, .any, .any, .any, .any, .any, .any, .any, .any, .any, .any, .any, .any, .any, .any, .any, .any, .any, .any, .any, .any, .any, .any, .any, .any, .any, .any, .any, .any, .any, .any, .any, .any, .any, .any, .any, .any, .any, .any, .any, .any, .any, .any, .any, .any, .any, .any, .any, .any, .any], [.ent (mkP q 1 (A1 ++ ((b.mem).take i.1).flatMap (vAL q.sp q.us q.o))), zBJ (A1 ++ ((b.mem).take i.1).flatMap (vAL q.sp q.us q.o)), .ent ⟨0, none, 39, [.v (.int .i64 a.v), .v (.int .i64 a.l), .sl f1 3 (zr a.code), .sl f2 2 (za a.mem), .sl f3 3 (zj a.stack), .sl f4 2 (za a.out)], .cells⟩, .ent ⟨0, none, 39, [.v (.int .i64 b.v), .v (.int .i64 b.l), .sl g1 3 (zr b.code), .sl g2 2 (za b.mem), .sl g3 3 (zj b.stack), .sl g4 2 (za b.out)], .cells⟩]⟩) (fun i => (b.mem).length - i.1) ⟨0, by omega⟩ (fun i => rfl) (fun i => ?_) (fun i => rfl) ⟨?_, ?_⟩ ?_
 ·refine zAF ?_
  simp only [List.map_cons, List.map_nil, zAY, zBt, zCS, zDR, zDo, show mOf (List.range 4) 1 = some 1 from rfl, zBZ]
  rfl
 ·exact Lq
 ·simp only [List.take_zero, List.flatMap_nil, List.append_nil]
  exact Fq
 rintro ⟨i, hi⟩
 dsimp only
 by_cases hlt : (i : Int) < ((b.mem).length : Int)
 ·have hx : (b.mem)[i]? = some (b.mem)[i] := List.getElem?_eq_getElem (by omega)
  obtain ⟨x, hx0⟩ : ∃ x, (b.mem)[i] = x := ⟨_, rfl⟩
  rw [hx0] at hx
  have hst : A1 ++ ((b.mem).take (i + 1)).flatMap (vAL q.sp q.us q.o) = (A1 ++ ((b.mem).take i).flatMap (vAL q.sp q.us q.o)) ++ vAL q.sp q.us q.o x := by rw [zCb hx, List.append_assoc]
  have hwn := zo (i := i) (n := (b.mem).length) (by omega) (by omega)
  have hLl : (A1 ++ ((b.mem).take i).flatMap (vAL q.sp q.us q.o)).length ≤ 300 := by
   have hb := zBX (zRG q.sp q.us q.o) ((b.mem).take i)
   rw [List.length_take] at hb
   rw [List.length_append]
   omega
  have hlab := hmL x (List.mem_of_getElem? hx)
  obtain ⟨L, hL⟩ : ∃ L, A1 ++ ((b.mem).take i).flatMap (vAL q.sp q.us q.o) = L := ⟨_, rfl⟩
  rw [hL] at hst hLl ⊢
  obtain ⟨v, c⟩ := x
  have hge := zBn hx
  simp only at hge hlab
  have hh := zCv q hq L c hlab
  obtain ⟨hb, hhb⟩ : ∃ b, hid q.us q.o c = b := ⟨_, rfl⟩
  rw [hhb] at hh
  cases hb
  case false =>
   rw [show vAL q.sp q.us q.o (v, c) = [] by unfold vAL; rw [if_neg (by rw [hhb]; simp)]] at hst
   have hnew : L ++ [] = L := by simp only [List.append_assoc, List.cons_append, List.nil_append, List.append_nil]
   rw [hnew] at hst
   simp only [mkP] at hh ⊢
   repeat' first | (with_reducible first | refine zA ?_ | refine zB ?_ | refine zP ?_ | refine zJ ?_ | refine zH ?_) | ((with_reducible refine And.intro ?_ ?_); · exact Sq) | ((first | with_reducible refine zC fun KC J hJ hKC => ?_ | (refine hKC _ _ _ _ _ (zT [0, 1] hh rfl rfl rfl (by decide) (by simp) rfl (zx rfl rfl rfl) Lq ?_))); simp (maxSteps := 9999999) only [push_cast, seval, ↓reduceIte, hlt, hge, hwn, undef, List.cons_append, List.nil_append, zAR, mOf, idx]) | ((with_reducible refine hJ _ _ ?_); clear hJ hKC KC J) | ((with_reducible refine zG ?_ ?_); · rfl) | ((with_reducible refine zI ?_ ?_); · rfl)
   refine ⟨⟨i + 1, by omega⟩, by simp only; omega, ?_, ?_⟩
   ·exact Lq
   ·simp only [hst]; exact ⟨_, rfl⟩
  case true =>
   rw [show vAL q.sp q.us q.o (v, c) = [zCd q.sp v] by unfold vAL; rw [if_pos hhb]] at hst
   have t1 := zDg q L v (by omega)
   obtain ⟨L1, hL1⟩ : ∃ l, L ++ [zCd q.sp v] = l := ⟨_, rfl⟩
   have lL1 : L1.length = L.length + 1 := by rw [← hL1]; simp
   rw [hL1] at t1
   have hnew : L ++ [zCd q.sp v] = L1 := by rw [← hL1]; try simp only [List.append_assoc, List.cons_append, List.nil_append, List.append_nil]
   rw [hnew] at hst
   simp only [mkP] at t1 hh ⊢
   repeat' first | (with_reducible first | refine zA ?_ | refine zB ?_ | refine zP ?_ | refine zJ ?_ | refine zH ?_) | ((with_reducible refine And.intro ?_ ?_); · exact Sq) | ((first | with_reducible refine zC fun KC J hJ hKC => ?_ | (refine hKC _ _ _ _ _ (zT [0, 1] hh rfl rfl rfl (by decide) (by simp) rfl (zx rfl rfl rfl) Lq ?_)) | (refine hKC _ _ _ _ _ (zT [0, 1] t1 rfl rfl rfl (by decide) (by simp) rfl (zx rfl rfl rfl) Lq ?_))); simp (maxSteps := 9999999) only [push_cast, seval, ↓reduceIte, hlt, hge, hwn, undef, List.cons_append, List.nil_append, zAR, mOf, idx]) | ((with_reducible refine hJ _ _ ?_); clear hJ hKC KC J) | ((with_reducible refine zG ?_ ?_); · rfl)
   refine ⟨⟨i + 1, by omega⟩, by simp only; omega, ?_, ?_⟩
   ·exact Lq
   ·simp only [hst]; exact ⟨_, rfl⟩
 have hin : i = (b.mem).length := by omega
 have hend : A1 ++ ((b.mem).take i).flatMap (vAL q.sp q.us q.o) = A1 ++ (b.mem).flatMap (vAL q.sp q.us q.o) := by rw [hin, List.take_length]
 rw [hend]
 obtain ⟨A2, hA2⟩ : ∃ l, A1 ++ (b.mem).flatMap (vAL q.sp q.us q.o) = l := ⟨_, rfl⟩
 have lA2 : A2.length ≤ 300 := by
  have hb := zBX (zRG q.sp q.us q.o) (b.mem)
  rw [← hA2, List.length_append]; (try simp only [List.length_take] at hb); omega
 rw [hA2]
 have u1 := zCv q hq A2 a.l haL
 obtain ⟨hi2, hhi⟩ : ∃ b, hid q.us q.o a.l = b := ⟨_, rfl⟩
 rw [hhi] at u1
 cases hi2
 case false =>
  have hfin : zAb q.sp q.us q.o a b = A2 ++ b.stack.flatMap (vSL q.sp q.us q.o) := by
   unfold zAb; rw [if_neg (by rw [hhi]; simp), ← hA2, ← hA1, List.append_assoc]
  rw [hfin]
  have htk : b.stack.take b.stack.length = b.stack := List.take_length
  simp only [mkP] at u1 ⊢
  repeat' first | (with_reducible first | refine zA ?_ | refine zB ?_ | refine zm ?_ | refine zl ?_ | refine zJ ?_ | refine zZ ?_ | refine zH ?_) | ((with_reducible refine And.intro ?_ ?_); · exact Sq) | ((first | with_reducible refine zC fun KC J hJ hKC => ?_ | (refine hKC _ _ _ _ _ (zT [0, 1] u1 rfl rfl rfl (by decide) (by simp) rfl (zx rfl rfl rfl) Lq ?_))); simp (maxSteps := 9999999) only [push_cast, seval, ↓reduceIte, hlt, Int.lt_irrefl, List.cons_append, List.nil_append, zAR, mOf, idx, Int.toNat_natCast, zKZ, htk]) | ((with_reducible refine hJ _ _ ?_); clear hJ hKC KC J) | ((with_reducible refine zI ?_ ?_); · rfl)
  refine zy 4 (γ := {i : Nat // i ≤ (b.stack).length}) (fun i => ⟨[.ptr 0 0 0, .any, .any, .any, .ptr 2 0 0, .ptr 3 0 0, .any, .any, .any, .any, .any, .v (.bool false), .any, .any, .any, .any, .any, .any, .any, .any, .any, .any, .any, .any, .any, .any, .any, .any, .any, .any, .any, .any, .any, .any, .any, .any, .any, .any, .any, .any, .any, .any, .any, .any, .any, .any, .any, .any, .any, .any, .any, .any, .any, .any, .any, .any, .any, .any, .any, .any, .any, .any, .any, .any, .any, .any, .any, .any, .any, .any, .any, .any, .any, .any, .any, .any, .any, .any, .any, .any, .any, .any, .any, .any, .any, .sl false 3 (zj (b.stack)), .v (.int .i64 (b.stack).length), .v (.int .i64 i.1), .any, .any, .any, .any, .any, .any, .any, .any, .any, .any, .any, .any, .any, .any, .any, .any, .any, .any, .any, .any, .any, .any, .any, .any, .any, .any, .any, .any, .any, .any, .any, .any, .any, .any, .any, .any, .any, .any, .any, .any, .any, .any, .any, .any, .any, .any, .any, .any, .any, .any, .any, .any, .any, .any, .any, .any, .any, .any, .any, .any], [.ent (mkP q 1 (A2 ++ ((b.stack).take i.1).flatMap (vSL q.sp q.us q.o))), zBJ (A2 ++ ((b.stack).take i.1).flatMap (vSL q.sp q.us q.o)), .ent ⟨0, none, 39, [.v (.int .i64 a.v), .v (.int .i64 a.l), .sl f1 3 (zr a.code), .sl f2 2 (za a.mem), .sl f3 3 (zj a.stack), .sl f4 2 (za a.out)], .cells⟩, .ent ⟨0, none, 39, [.v (.int .i64 b.v), .v (.int .i64 b.l), .sl g1 3 (zr b.code), .sl g2 2 (za b.mem), .sl g3 3 (zj b.stack), .sl g4 2 (za b.out)], .cells⟩]⟩) (fun i => (b.stack).length - i.1) ⟨0, by omega⟩ (fun i => rfl) (fun i => ?_) (fun i => rfl) ⟨?_, ?_⟩ ?_
  ·refine zAF ?_
   simp only [List.map_cons, List.map_nil, zAY, zBt, zCS, zDR, zDo, show mOf (List.range 4) 1 = some 1 from rfl, zBZ]
   rfl
  ·exact Lq
  ·simp only [List.take_zero, List.flatMap_nil, List.append_nil]
   exact Fq
  rintro ⟨i, hi⟩
  dsimp only
  by_cases hlt : (i : Int) < ((b.stack).length : Int)
  ·have hx : (b.stack)[i]? = some (b.stack)[i] := List.getElem?_eq_getElem (by omega)
   obtain ⟨x, hx0⟩ : ∃ x, (b.stack)[i] = x := ⟨_, rfl⟩
   rw [hx0] at hx
   have hst : A2 ++ ((b.stack).take (i + 1)).flatMap (vSL q.sp q.us q.o) = (A2 ++ ((b.stack).take i).flatMap (vSL q.sp q.us q.o)) ++ vSL q.sp q.us q.o x := by rw [zCb hx, List.append_assoc]
   have hwn := zo (i := i) (n := (b.stack).length) (by omega) (by omega)
   have hLl : (A2 ++ ((b.stack).take i).flatMap (vSL q.sp q.us q.o)).length ≤ 450 := by
    have hb := zBX (zMA q.sp q.us q.o) ((b.stack).take i)
    rw [List.length_take] at hb
    rw [List.length_append]
    omega
   have hlab := hsL x (List.mem_of_getElem? hx)
   obtain ⟨L, hL⟩ : ∃ L, A2 ++ ((b.stack).take i).flatMap (vSL q.sp q.us q.o) = L := ⟨_, rfl⟩
   rw [hL] at hst hLl ⊢
   obtain ⟨r, v, c⟩ := x
   have hge := zBm hx
   simp only at hge hlab
   have hh := zCv q hq L c hlab
   obtain ⟨hb, hhb⟩ : ∃ b, hid q.us q.o c = b := ⟨_, rfl⟩
   rw [hhb] at hh
   cases hb
   case false =>
    rw [show vSL q.sp q.us q.o (r, v, c) = [] by unfold vSL; rw [if_neg (by rw [hhb]; simp)]] at hst
    have hnew : L ++ [] = L := by simp only [List.append_assoc, List.cons_append, List.nil_append, List.append_nil]
    rw [hnew] at hst
    simp only [mkP] at hh ⊢
    repeat' first | (with_reducible first | refine zA ?_ | refine zB ?_ | refine zP ?_ | refine zJ ?_ | refine zH ?_) | ((with_reducible refine And.intro ?_ ?_); · exact Sq) | ((first | with_reducible refine zC fun KC J hJ hKC => ?_ | (refine hKC _ _ _ _ _ (zT [0, 1] hh rfl rfl rfl (by decide) (by simp) rfl (zx rfl rfl rfl) Lq ?_))); simp (maxSteps := 9999999) only [push_cast, seval, ↓reduceIte, hlt, hge, hwn, undef, List.cons_append, List.nil_append, zAR, mOf, idx]) | ((with_reducible refine hJ _ _ ?_); clear hJ hKC KC J) | ((with_reducible refine zG ?_ ?_); · rfl) | ((with_reducible refine zI ?_ ?_); · rfl)
    refine ⟨⟨i + 1, by omega⟩, by simp only; omega, ?_, ?_⟩
    ·exact Lq
    ·simp only [hst]; exact ⟨_, rfl⟩
   case true =>
    rw [show vSL q.sp q.us q.o (r, v, c) = [zCX q.sp (r, v, c)] by unfold vSL; rw [if_pos hhb]] at hst
    have t1 := zFT q L (r, v, c) (by omega)
    obtain ⟨L1, hL1⟩ : ∃ l, L ++ [zCX q.sp (r, v, c)] = l := ⟨_, rfl⟩
    have lL1 : L1.length = L.length + 1 := by rw [← hL1]; simp
    rw [hL1] at t1
    have hnew : L ++ [zCX q.sp (r, v, c)] = L1 := by rw [← hL1]; try simp only [List.append_assoc, List.cons_append, List.nil_append, List.append_nil]
    rw [hnew] at hst
    simp only [mkP] at t1 hh ⊢
    repeat' first | (with_reducible first | refine zA ?_ | refine zB ?_ | refine zP ?_ | refine zJ ?_ | refine zH ?_) | ((with_reducible refine And.intro ?_ ?_); · exact Sq) | ((first | with_reducible refine zC fun KC J hJ hKC => ?_ | (refine hKC _ _ _ _ _ (zT [0, 1] hh rfl rfl rfl (by decide) (by simp) rfl (zx rfl rfl rfl) Lq ?_)) | (refine hKC _ _ _ _ _ (zT [0, 1] t1 rfl rfl rfl (by decide) (by simp) rfl (zx rfl rfl rfl) Lq ?_))); simp (maxSteps := 9999999) only [push_cast, seval, ↓reduceIte, hlt, hge, hwn, undef, List.cons_append, List.nil_append, zAR, mOf, idx]) | ((with_reducible refine hJ _ _ ?_); clear hJ hKC KC J) | ((with_reducible refine zG ?_ ?_); · rfl)
    refine ⟨⟨i + 1, by omega⟩, by simp only; omega, ?_, ?_⟩
    ·exact Lq
    ·simp only [hst]; exact ⟨_, rfl⟩
  have hin : i = (b.stack).length := by omega
  have hend : A2 ++ ((b.stack).take i).flatMap (vSL q.sp q.us q.o) = A2 ++ (b.stack).flatMap (vSL q.sp q.us q.o) := by rw [hin, List.take_length]
  rw [hend]
  obtain ⟨A3, hA3⟩ : ∃ l, A2 ++ (b.stack).flatMap (vSL q.sp q.us q.o) = l := ⟨_, rfl⟩
  have lA3 : A3.length ≤ 450 := by
   have hb := zBX (zMA q.sp q.us q.o) (b.stack)
   rw [← hA3, List.length_append]; (try simp only [List.length_take] at hb); omega
  rw [hA3]
  simp only [mkP]
  repeat' first | (with_reducible first | refine zA ?_ | refine zB ?_ | refine zm ?_ | refine zl ?_ | refine zZ ?_) | ((with_reducible refine zC fun KC J hJ hKC => ?_); simp (maxSteps := 9999999) only [push_cast, seval, ↓reduceIte, hlt, Int.lt_irrefl]) | ((with_reducible refine hJ _ _ ?_); clear hJ hKC KC J) | ((with_reducible refine zG ?_ ?_); · rfl) | ((with_reducible refine zI ?_ ?_); · rfl)
  refine zF ?_
  exact zUK rfl rfl rfl
 case true =>
  obtain ⟨k, hk⟩ : ∃ k, (zt q.us q.o b.stack).length = k := ⟨_, rfl⟩
  have hcrop := zDk q.f q.g g3 q.ns q.us (q.o : Int) b.stack hq.szs hq.u32 (by omega)
  rw [zCt hq.chk hsL (zAH.2 ⟨by omega, by have := hq.lab; omega⟩), zFE hq.chk hsL (zAH.2 ⟨by omega, by have := hq.lab; omega⟩)] at hcrop
  have hcr : zt q.us q.o b.stack = b.stack.take k := by rw [← hk]; unfold zt; rw [List.length_take, Nat.min_eq_left (zES _ _)]
  have hkl : k ≤ b.stack.length := by rw [← hk]; unfold zt; rw [List.length_take]; omega
  have hrl : (zj (zt q.us q.o b.stack)).length = k := by simp [zj, hk]
  obtain ⟨CR, hCR⟩ : ∃ r, zj (zt q.us q.o b.stack) = r := ⟨_, rfl⟩
  rw [hCR] at hcrop hrl
  have htl : (b.stack.take k).length = k := by rw [List.length_take]; omega
  have hsT : ∀ x ∈ b.stack.take k, zv q.us.length x.2.2 = false := fun x hx => hsL x (List.mem_of_mem_take hx)
  have hsD : ∀ x ∈ b.stack.drop k, zv q.us.length x.2.2 = false := fun x hx => hsL x (List.mem_of_mem_drop hx)
  have hdl : (b.stack.drop k).length = b.stack.length - k := List.length_drop
  have hfin : zAb q.sp q.us q.o a b = ((((A2 ++ (b.stack.take k).flatMap (vSL q.sp q.us q.o)) ++ [(b.stack.length : Int) - (k : Int)]) ++ (b.stack.drop k).flatMap (zCc q.sp)) ++ [b.v]) ++ [(zEu q.us q.o b.l : Int)] := by
   unfold zAb; rw [if_pos hhi, hk, hcr, ← hA2, ← hA1]; simp only [List.append_assoc, List.cons_append, List.nil_append]
  rw [hfin]
  have hle1 : ¬ ((k : Int) < 0) := by omega
  have hle2 : ((k : Int) ≤ (b.stack.length : Int)) = True := eq_true (by omega)
  simp only [mkP] at u1 ⊢
  repeat' first | (with_reducible first | refine zA ?_ | refine zB ?_ | refine zm ?_ | refine zl ?_ | refine zZ ?_ | refine zH ?_) | ((with_reducible refine And.intro ?_ ?_); · exact Sq) | ((first | with_reducible refine zC fun KC J hJ hKC => ?_ | with_reducible refine zY rfl fun KC J hJ hKC => ?_ | (refine hKC _ _ _ _ _ (zT [0, 1] u1 rfl rfl rfl (by decide) (by simp) rfl (zx rfl rfl rfl) Lq ?_)) | (refine hKC _ _ _ _ _ (zE (hcrop) rfl rfl rfl ?_ ?_); (· exact Lq))); simp (maxSteps := 9999999) only [push_cast, seval, ↓reduceIte, hlt, Int.lt_irrefl, hrl, hle2, List.cons_append, List.nil_append, zAR, mOf, idx, Int.toNat_natCast, zKZ]) | ((first | with_reducible refine hJ _ _ ?_ | (with_reducible refine hJ _ _ ?_ ?_; · kernel_rfl)); clear hJ hKC KC J) | ((with_reducible refine zG ?_ ?_); · rfl) | ((with_reducible refine zI ?_ ?_); · rfl)
  refine zy 4 (γ := {i : Nat // i ≤ (b.stack.take k).length}) (fun i => ⟨[.ptr 0 0 0, .any, .any, .any, .ptr 2 0 0, .ptr 3 0 0, .any, .any, .any, .any, .v (.int .i64 (k : Int)), .v (.bool true), .any, .any, .any, .any, .any, .any, .any, .any, .any, .any, .any, .any, .any, .any, .any, .any, .any, .any, .any, .any, .any, .any, .any, .any, .any, .any, .any, .any, .any, .any, .any, .any, .any, .any, .any, .any, .any, .any, .any, .any, .any, .any, .any, .any, .any, .any, .any, .any, .any, .any, .any, .any, .any, .any, .any, .any, .any, .any, .any, .any, .any, .any, .any, .any, .any, .any, .any, .any, .any, .any, .any, .any, .any, .sl false 3 (zj (b.stack.take k)), .v (.int .i64 (b.stack.take k).length), .v (.int .i64 i.1), .any, .any, .any, .any, .any, .any, .any, .any, .any, .any, .any, .any, .any, .any, .any, .any, .any, .any, .any, .any, .any, .any, .any, .any, .any, .any, .any, .any, .any, .any, .any, .any, .any, .any, .any, .any, .any, .any, .any, .any, .any, .any, .any, .any, .any, .any, .any, .any, .any, .any, .any, .any, .any, .any, .any, .any, .any, .any, .any, .any], [.ent (mkP q 1 (A2 ++ ((b.stack.take k).take i.1).flatMap (vSL q.sp q.us q.o))), zBJ (A2 ++ ((b.stack.take k).take i.1).flatMap (vSL q.sp q.us q.o)), .ent ⟨0, none, 39, [.v (.int .i64 a.v), .v (.int .i64 a.l), .sl f1 3 (zr a.code), .sl f2 2 (za a.mem), .sl f3 3 (zj a.stack), .sl f4 2 (za a.out)], .cells⟩, .ent ⟨0, none, 39, [.v (.int .i64 b.v), .v (.int .i64 b.l), .sl g1 3 (zr b.code), .sl g2 2 (za b.mem), .sl g3 3 (zj b.stack), .sl g4 2 (za b.out)], .cells⟩]⟩) (fun i => (b.stack.take k).length - i.1) ⟨0, by omega⟩ (fun i => rfl) (fun i => ?_) (fun i => rfl) ⟨?_, ?_⟩ ?_
  ·refine zAF ?_
   simp only [List.map_cons, List.map_nil, zAY, zBt, zCS, zDR, zDo, show mOf (List.range 4) 1 = some 1 from rfl, zBZ]
   rfl
  ·exact Lq
  ·simp only [List.take_zero, List.flatMap_nil, List.append_nil]
   exact Fq
  rintro ⟨i, hi⟩
  dsimp only
  by_cases hlt : (i : Int) < ((b.stack.take k).length : Int)
  ·have hx : (b.stack.take k)[i]? = some (b.stack.take k)[i] := List.getElem?_eq_getElem (by omega)
   obtain ⟨x, hx0⟩ : ∃ x, (b.stack.take k)[i] = x := ⟨_, rfl⟩
   rw [hx0] at hx
   have hst : A2 ++ ((b.stack.take k).take (i + 1)).flatMap (vSL q.sp q.us q.o) = (A2 ++ ((b.stack.take k).take i).flatMap (vSL q.sp q.us q.o)) ++ vSL q.sp q.us q.o x := by rw [zCb hx, List.append_assoc]
   have hwn := zo (i := i) (n := (b.stack.take k).length) (by omega) (by omega)
   have hLl : (A2 ++ ((b.stack.take k).take i).flatMap (vSL q.sp q.us q.o)).length ≤ 450 := by
    have hb := zBX (zMA q.sp q.us q.o) ((b.stack.take k).take i)
    rw [List.length_take] at hb
    rw [List.length_append]
    omega
   have hlab := hsT x (List.mem_of_getElem? hx)
   obtain ⟨L, hL⟩ : ∃ L, A2 ++ ((b.stack.take k).take i).flatMap (vSL q.sp q.us q.o) = L := ⟨_, rfl⟩
   rw [hL] at hst hLl ⊢
   obtain ⟨r, v, c⟩ := x
   have hge := zBm hx
   simp only at hge hlab
   have hh := zCv q hq L c hlab
   obtain ⟨hb, hhb⟩ : ∃ b, hid q.us q.o c = b := ⟨_, rfl⟩
   rw [hhb] at hh
   cases hb
   case false =>
    rw [show vSL q.sp q.us q.o (r, v, c) = [] by unfold vSL; rw [if_neg (by rw [hhb]; simp)]] at hst
    have hnew : L ++ [] = L := by simp only [List.append_assoc, List.cons_append, List.nil_append, List.append_nil]
    rw [hnew] at hst
    simp only [mkP] at hh ⊢
    repeat' first | (with_reducible first | refine zA ?_ | refine zB ?_ | refine zP ?_ | refine zJ ?_ | refine zH ?_) | ((with_reducible refine And.intro ?_ ?_); · exact Sq) | ((first | with_reducible refine zC fun KC J hJ hKC => ?_ | (refine hKC _ _ _ _ _ (zT [0, 1] hh rfl rfl rfl (by decide) (by simp) rfl (zx rfl rfl rfl) Lq ?_))); simp (maxSteps := 9999999) only [push_cast, seval, ↓reduceIte, hlt, hge, hwn, undef, List.cons_append, List.nil_append, zAR, mOf, idx]) | ((with_reducible refine hJ _ _ ?_); clear hJ hKC KC J) | ((with_reducible refine zG ?_ ?_); · rfl) | ((with_reducible refine zI ?_ ?_); · rfl)
    refine ⟨⟨i + 1, by omega⟩, by simp only; omega, ?_, ?_⟩
    ·exact Lq
    ·simp only [hst]; exact ⟨_, rfl⟩
   case true =>
    rw [show vSL q.sp q.us q.o (r, v, c) = [zCX q.sp (r, v, c)] by unfold vSL; rw [if_pos hhb]] at hst
    have t1 := zFT q L (r, v, c) (by omega)
    obtain ⟨L1, hL1⟩ : ∃ l, L ++ [zCX q.sp (r, v, c)] = l := ⟨_, rfl⟩
    have lL1 : L1.length = L.length + 1 := by rw [← hL1]; simp
    rw [hL1] at t1
    have hnew : L ++ [zCX q.sp (r, v, c)] = L1 := by rw [← hL1]; try simp only [List.append_assoc, List.cons_append, List.nil_append, List.append_nil]
    rw [hnew] at hst
    simp only [mkP] at t1 hh ⊢
    repeat' first | (with_reducible first | refine zA ?_ | refine zB ?_ | refine zP ?_ | refine zJ ?_ | refine zH ?_) | ((with_reducible refine And.intro ?_ ?_); · exact Sq) | ((first | with_reducible refine zC fun KC J hJ hKC => ?_ | (refine hKC _ _ _ _ _ (zT [0, 1] hh rfl rfl rfl (by decide) (by simp) rfl (zx rfl rfl rfl) Lq ?_)) | (refine hKC _ _ _ _ _ (zT [0, 1] t1 rfl rfl rfl (by decide) (by simp) rfl (zx rfl rfl rfl) Lq ?_))); simp (maxSteps := 9999999) only [push_cast, seval, ↓reduceIte, hlt, hge, hwn, undef, List.cons_append, List.nil_append, zAR, mOf, idx]) | ((with_reducible refine hJ _ _ ?_); clear hJ hKC KC J) | ((with_reducible refine zG ?_ ?_); · rfl)
    refine ⟨⟨i + 1, by omega⟩, by simp only; omega, ?_, ?_⟩
    ·exact Lq
    ·simp only [hst]; exact ⟨_, rfl⟩
  have hin : i = (b.stack.take k).length := by omega
  have hend : A2 ++ ((b.stack.take k).take i).flatMap (vSL q.sp q.us q.o) = A2 ++ (b.stack.take k).flatMap (vSL q.sp q.us q.o) := by rw [hin, List.take_length]
  rw [hend]
  obtain ⟨A3, hA3⟩ : ∃ l, A2 ++ (b.stack.take k).flatMap (vSL q.sp q.us q.o) = l := ⟨_, rfl⟩
  have lA3 : A3.length ≤ 450 := by
   have hb := zBX (zMA q.sp q.us q.o) (b.stack.take k)
   rw [← hA3, List.length_append]; (try simp only [List.length_take] at hb); omega
  rw [hA3]
  have k1 := zAt q A3 ((b.stack.length : Int) - (k : Int)) (by omega)
  obtain ⟨A4, hA4⟩ : ∃ l, A3 ++ [(b.stack.length : Int) - (k : Int)] = l := ⟨_, rfl⟩
  have lA4 : A4.length = A3.length + 1 := by rw [← hA4]; simp
  have hsub : IntKind.i64.wrap ((b.stack.length : Int) - (k : Int)) = (b.stack.length : Int) - (k : Int) := by rw [IntKind.wrap_i64]; omega
  rw [hA4] at k1
  simp only [mkP, hA4] at k1 ⊢
  rw [htl] at hlt ⊢
  have htk : b.stack.take b.stack.length = b.stack := List.take_length
  repeat' first | (with_reducible first | refine zA ?_ | refine zB ?_ | refine zm ?_ | refine zl ?_ | refine zJ ?_ | refine zZ ?_ | refine zH ?_) | ((with_reducible refine And.intro ?_ ?_); · exact Sq) | ((first | with_reducible refine zC fun KC J hJ hKC => ?_ | (refine hKC _ _ _ _ _ (zT [0, 1] k1 rfl rfl rfl (by decide) (by simp) rfl (zx rfl rfl rfl) Lq ?_))); simp (maxSteps := 9999999) only [push_cast, seval, ↓reduceIte, hlt, Int.lt_irrefl, hsub, hle2, htk, List.cons_append, List.nil_append, zAR, mOf, idx, Int.toNat_natCast, zQh]) | ((with_reducible refine hJ _ _ ?_); clear hJ hKC KC J) | ((with_reducible refine zI ?_ ?_); · rfl)
  refine zy 4 (γ := {i : Nat // i ≤ (b.stack.drop k).length}) (fun i => ⟨[.ptr 0 0 0, .any, .any, .any, .ptr 2 0 0, .ptr 3 0 0, .any, .any, .any, .any, .any, .any, .any, .any, .any, .any, .any, .any, .any, .any, .any, .any, .any, .any, .any, .any, .any, .any, .any, .any, .any, .any, .any, .any, .any, .any, .any, .any, .any, .any, .any, .any, .any, .any, .any, .any, .any, .any, .any, .any, .any, .any, .any, .any, .any, .any, .any, .any, .any, .any, .any, .any, .any, .any, .any, .any, .any, .any, .any, .any, .any, .any, .any, .any, .any, .any, .any, .any, .any, .any, .any, .any, .any, .any, .any, .any, .any, .any, .any, .any, .any, .any, .any, .any, .any, .any, .any, .any, .any, .any, .any, .any, .any, .any, .any, .any, .any, .any, .any, .any, .any, .sl false 3 (zj (b.stack.drop k)), .v (.int .i64 (b.stack.drop k).length), .v (.int .i64 i.1), .any, .any, .any, .any, .any, .any, .any, .any, .any, .any, .any, .any, .any, .any, .any, .any, .any, .any, .any, .any, .any, .any, .any, .any, .any, .any, .any, .any, .any, .any, .any, .any, .any, .any], [.ent (mkP q 1 (A4 ++ ((b.stack.drop k).take i.1).flatMap (zCc q.sp))), zBJ (A4 ++ ((b.stack.drop k).take i.1).flatMap (zCc q.sp)), .ent ⟨0, none, 39, [.v (.int .i64 a.v), .v (.int .i64 a.l), .sl f1 3 (zr a.code), .sl f2 2 (za a.mem), .sl f3 3 (zj a.stack), .sl f4 2 (za a.out)], .cells⟩, .ent ⟨0, none, 39, [.v (.int .i64 b.v), .v (.int .i64 b.l), .sl g1 3 (zr b.code), .sl g2 2 (za b.mem), .sl g3 3 (zj b.stack), .sl g4 2 (za b.out)], .cells⟩]⟩) (fun i => (b.stack.drop k).length - i.1) ⟨0, by omega⟩ (fun i => rfl) (fun i => ?_) (fun i => rfl) ⟨?_, ?_⟩ ?_
  ·refine zAF ?_
   simp only [List.map_cons, List.map_nil, zAY, zBt, zCS, zDR, zDo, show mOf (List.range 4) 1 = some 1 from rfl, zBZ]
   rfl
  ·exact Lq
  ·simp only [List.take_zero, List.flatMap_nil, List.append_nil]
   exact Fq
  rintro ⟨i, hi⟩
  dsimp only
  by_cases hlt : (i : Int) < ((b.stack.drop k).length : Int)
  ·have hx : (b.stack.drop k)[i]? = some (b.stack.drop k)[i] := List.getElem?_eq_getElem (by omega)
   obtain ⟨x, hx0⟩ : ∃ x, (b.stack.drop k)[i] = x := ⟨_, rfl⟩
   rw [hx0] at hx
   have hst : A4 ++ ((b.stack.drop k).take (i + 1)).flatMap (zCc q.sp) = (A4 ++ ((b.stack.drop k).take i).flatMap (zCc q.sp)) ++ zCc q.sp x := by rw [zCb hx, List.append_assoc]
   have hwn := zo (i := i) (n := (b.stack.drop k).length) (by omega) (by omega)
   have hLl : (A4 ++ ((b.stack.drop k).take i).flatMap (zCc q.sp)).length ≤ 650 := by
    have hb := zBX (zMa q.sp) ((b.stack.drop k).take i)
    rw [List.length_take] at hb
    rw [List.length_append]
    omega
   have hlab := hsD x (List.mem_of_getElem? hx)
   obtain ⟨L, hL⟩ : ∃ L, A4 ++ ((b.stack.drop k).take i).flatMap (zCc q.sp) = L := ⟨_, rfl⟩
   rw [hL] at hst hLl ⊢
   obtain ⟨r, v, c⟩ := x
   have hge := zBm hx
   simp only at hge hlab
   rw [show zCc q.sp (r, v, c) = [zJP (r, v, c), c, zCX q.sp (r, v, c)] from rfl] at hst
   have t1 := zOv q L (r, v, c) (by omega)
   obtain ⟨L1, hL1⟩ : ∃ l, L ++ [zJP (r, v, c)] = l := ⟨_, rfl⟩
   have lL1 : L1.length = L.length + 1 := by rw [← hL1]; simp
   rw [hL1] at t1
   have t2 := zAt q L1 c (by omega)
   obtain ⟨L2, hL2⟩ : ∃ l, L1 ++ [c] = l := ⟨_, rfl⟩
   have lL2 : L2.length = L1.length + 1 := by rw [← hL2]; simp
   rw [hL2] at t2
   have t3 := zFT q L2 (r, v, c) (by omega)
   obtain ⟨L3, hL3⟩ : ∃ l, L2 ++ [zCX q.sp (r, v, c)] = l := ⟨_, rfl⟩
   have lL3 : L3.length = L2.length + 1 := by rw [← hL3]; simp
   rw [hL3] at t3
   have hnew : L ++ [zJP (r, v, c), c, zCX q.sp (r, v, c)] = L3 := by rw [← hL3, ← hL2, ← hL1]; try simp only [List.append_assoc, List.cons_append, List.nil_append, List.append_nil]
   rw [hnew] at hst
   simp only [mkP] at t1 t2 t3 ⊢
   repeat' first | (with_reducible first | refine zA ?_ | refine zB ?_ | refine zP ?_ | refine zJ ?_ | refine zH ?_) | ((with_reducible refine And.intro ?_ ?_); · exact Sq) | ((first | with_reducible refine zC fun KC J hJ hKC => ?_ | (refine hKC _ _ _ _ _ (zT [0, 1] t1 rfl rfl rfl (by decide) (by simp) rfl (zx rfl rfl rfl) Lq ?_)) | (refine hKC _ _ _ _ _ (zT [0, 1] t2 rfl rfl rfl (by decide) (by simp) rfl (zx rfl rfl rfl) Lq ?_)) | (refine hKC _ _ _ _ _ (zT [0, 1] t3 rfl rfl rfl (by decide) (by simp) rfl (zx rfl rfl rfl) Lq ?_))); simp (maxSteps := 9999999) only [push_cast, seval, ↓reduceIte, hlt, hge, hwn, List.cons_append, List.nil_append, zAR, mOf, idx]) | ((with_reducible refine hJ _ _ ?_); clear hJ hKC KC J) | ((with_reducible refine zG ?_ ?_); · rfl)
   refine ⟨⟨i + 1, by omega⟩, by simp only; omega, ?_, ?_⟩
   ·exact Lq
   ·simp only [hst]; exact ⟨_, rfl⟩
  have hin : i = (b.stack.drop k).length := by omega
  have hend : A4 ++ ((b.stack.drop k).take i).flatMap (zCc q.sp) = A4 ++ (b.stack.drop k).flatMap (zCc q.sp) := by rw [hin, List.take_length]
  rw [hend]
  obtain ⟨A5, hA5⟩ : ∃ l, A4 ++ (b.stack.drop k).flatMap (zCc q.sp) = l := ⟨_, rfl⟩
  have lA5 : A5.length ≤ 650 := by
   have hb := zBX (zMa q.sp) (b.stack.drop k)
   rw [← hA5, List.length_append]; (try simp only [List.length_take] at hb); omega
  rw [hA5]
  have k2 := zAt q A5 b.v (by omega)
  obtain ⟨A6, hA6⟩ : ∃ l, A5 ++ [b.v] = l := ⟨_, rfl⟩
  have lA6 : A6.length = A5.length + 1 := by rw [← hA6]; simp
  obtain ⟨N, hN, hNl⟩ := zBV hbL
  rw [hN]
  rw [hA6] at k2
  simp only [mkP, hA6, hN] at k2 ⊢
  repeat' first | (with_reducible first | refine zA ?_ | refine zB ?_ | refine zm ?_ | refine zl ?_ | refine zZ ?_ | refine zH ?_) | ((first | with_reducible refine zC fun KC J hJ hKC => ?_ | (refine hKC _ _ _ _ _ (zT [0, 1] k2 rfl rfl rfl (by decide) (by simp) rfl (zx rfl rfl rfl) Lq ?_))); simp (maxSteps := 9999999) only [push_cast, seval, ↓reduceIte, hlt, Int.lt_irrefl, List.cons_append, List.nil_append, zAR, mOf, idx]) | ((with_reducible refine hJ _ _ ?_); clear hJ hKC KC J) | ((with_reducible refine zI ?_ ?_); · rfl)
  refine zy 4 (γ := {i : Nat // i ≤ N}) (fun i => ⟨[.ptr 0 0 0, .any, .any, .any, .any, .any, .any, .any, .any, .any, .any, .any, .any, .any, .any, .any, .any, .any, .v (.int .i64 (zEu q.us q.o (i.1 : Int) : Int)), .any, .any, .any, .any, .any, .any, .any, .any, .any, .any, .any, .any, .any, .any, .any, .any, .any, .any, .any, .any, .any, .any, .any, .any, .any, .any, .any, .any, .any, .any, .any, .any, .any, .any, .any, .any, .any, .any, .any, .any, .any, .any, .any, .any, .any, .any, .any, .any, .any, .any, .any, .any, .any, .any, .any, .any, .any, .any, .any, .any, .any, .any, .any, .any, .any, .any, .any, .any, .any, .any, .any, .any, .any, .any, .any, .any, .any, .any, .any, .any, .any, .any, .any, .any, .any, .any, .any, .any, .any, .any, .any, .any, .any, .any, .any, .any, .any, .any, .any, .any, .any, .any, .any, .any, .any, .any, .any, .any, .any, .any, .any, .any, .any, .any, .any, .any, .v (.int .i64 (N : Int)), .v (.int .i64 i.1), .any, .any, .any, .any, .any, .any, .any, .any, .any, .any, .any], [.ent (mkP q 1 A6), zBJ A6, .ent ⟨0, none, 39, [.v (.int .i64 a.v), .v (.int .i64 a.l), .sl f1 3 (zr a.code), .sl f2 2 (za a.mem), .sl f3 3 (zj a.stack), .sl f4 2 (za a.out)], .cells⟩, .ent ⟨0, none, 39, [.v (.int .i64 b.v), .v (.int .i64 (N : Int)), .sl g1 3 (zr b.code), .sl g2 2 (za b.mem), .sl g3 3 (zj b.stack), .sl g4 2 (za b.out)], .cells⟩]⟩) (fun i => N - i.1) ⟨0, by omega⟩ (fun i => rfl) (fun i => ?_) (fun i => rfl) ⟨?_, ?_⟩ ?_
  ·refine zAF ?_
   simp only [List.map_cons, List.map_nil, zAY, zBt, zCS, zDR, zDo, show mOf (List.range 4) 1 = some 1 from rfl, zBZ]
   rfl
  ·simp only [show zEu q.us q.o ((0 : Nat) : Int) = 0 from rfl]
   exact Lq
  ·exact Fq
  rintro ⟨i, hi⟩
  dsimp only
  have hnb := zTT q.us q.o i
  by_cases hlt : (i : Int) < (N : Int)
  ·have hh := zCv q hq A6 (i : Int) (zAH.2 (by omega))
   have hst := zPr q.us q.o i
   have hwn := zo (i := i) (n := N) (by omega) (by omega)
   obtain ⟨n, hn⟩ : ∃ n, zEu q.us q.o (i : Int) = n := ⟨_, rfl⟩
   rw [hn] at hst hnb ⊢
   have hwm := zo (i := n) (n := N) (by omega) (by omega)
   obtain ⟨hb, hhb⟩ : ∃ b, hid q.us q.o (i : Int) = b := ⟨_, rfl⟩
   rw [hhb] at hh hst
   cases hb
   case false =>
    rw [if_neg (by simp), Nat.add_zero] at hst
    simp only [mkP] at hh ⊢
    repeat' first | (with_reducible first | refine zA ?_ | refine zB ?_ | refine zP ?_ | refine zJ ?_ | refine zH ?_) | ((first | with_reducible refine zC fun KC J hJ hKC => ?_ | (refine hKC _ _ _ _ _ (zT [0, 1] hh rfl rfl rfl (by decide) (by simp) rfl (zx rfl rfl rfl) Lq ?_))); simp (maxSteps := 9999999) only [push_cast, seval, ↓reduceIte, hlt, hwn, hwm, List.cons_append, List.nil_append, zAR, mOf, idx]) | ((with_reducible refine hJ _ _ ?_); clear hJ hKC KC J) | ((with_reducible refine zG ?_ ?_); · rfl) | ((with_reducible refine zI ?_ ?_); · rfl)
    refine ⟨⟨i + 1, by omega⟩, by simp only; omega, ?_, ?_⟩
    ·simp only [hst]
     exact Lq
    ·exact ⟨_, rfl⟩
   case true =>
    rw [if_pos rfl] at hst
    simp only [mkP] at hh ⊢
    repeat' first | (with_reducible first | refine zA ?_ | refine zB ?_ | refine zP ?_ | refine zJ ?_ | refine zH ?_) | ((first | with_reducible refine zC fun KC J hJ hKC => ?_ | (refine hKC _ _ _ _ _ (zT [0, 1] hh rfl rfl rfl (by decide) (by simp) rfl (zx rfl rfl rfl) Lq ?_))); simp (maxSteps := 9999999) only [push_cast, seval, ↓reduceIte, hlt, hwn, hwm, List.cons_append, List.nil_append, zAR, mOf, idx]) | ((with_reducible refine hJ _ _ ?_); clear hJ hKC KC J) | ((with_reducible refine zG ?_ ?_); · rfl)
    refine ⟨⟨i + 1, by omega⟩, by simp only; omega, ?_, ?_⟩
    ·simp only [hst]
     exact Lq
    ·exact ⟨_, rfl⟩
  have hin : i = N := by omega
  subst hin
  have k3 := zAt q A6 (zEu q.us q.o (i : Int)) (by omega)
  obtain ⟨A7, hA7⟩ : ∃ l, A6 ++ [(zEu q.us q.o (i : Int) : Int)] = l := ⟨_, rfl⟩
  rw [hA7] at k3
  simp only [mkP, hA7] at k3 ⊢
  repeat' first | (with_reducible first | refine zA ?_ | refine zB ?_ | refine zm ?_ | refine zl ?_ | refine zZ ?_) | ((first | with_reducible refine zC fun KC J hJ hKC => ?_ | (refine hKC _ _ _ _ _ (zT [0, 1] k3 rfl rfl rfl (by decide) (by simp) rfl (zx rfl rfl rfl) Lq ?_))); simp (maxSteps := 9999999) only [push_cast, seval, ↓reduceIte, hlt, Int.lt_irrefl, List.cons_append, List.nil_append, zAR, mOf, idx]) | ((with_reducible refine hJ _ _ ?_); clear hJ hKC KC J) | ((with_reducible refine zI ?_ ?_); · rfl)
  exact zGy rfl rfl rfl
theorem zJW (sp : Sp) (s : Sta) : 0 < (zBQ sp s).length := by simp [zBQ]
theorem zKf (f g : Bool) (ns : List ByteArray) (us : List Nat) (sp : Sp) (s : Sta) (hs : Szs ns) (hu : U32 us) (hw : sp.ws.length ≤ 1000) (hl : Sml15 s) :
  Fn Tryz.prog 35 [.agg [.sl f 1 (zS ns), .sl g 1 (zR us)], .agg (spF false sp), .agg (zAT false false false false s)] [] (.tup [.sl false 1 (zM (stU ns us sp s)), .v (.int .i64 (zDQ ns us sp s))]) [] := by
 have h1 := zPJ f g true ns us sp [s] hs hu hw (by intro x hx; simp at hx; subst hx; exact hl.sml) (by simp)
 rw [zQq] at h1
 unfold stU
 obtain ⟨m, hm⟩ : ∃ m, zDQ ns us sp s = m := ⟨_, rfl⟩
 rw [hm] at h1 ⊢
 by_cases h0 : m = 0
 ·subst h0
  have k := zQb ⟨f, g, ns, us, sp, 0⟩ false false false false s hw (by have := hl.code; omega) (by have := hl.mem; omega) (by have := hl.stack; omega)
  have hpos := zJW sp s
  rw [if_pos rfl]
  obtain ⟨L, hL⟩ : ∃ L, zBQ sp s = L := ⟨_, rfl⟩
  rw [hL] at k hpos ⊢
  obtain ⟨j, hj⟩ : ∃ j, L.length = j + 1 := ⟨L.length - 1, by omega⟩
  simp only [zEA, List.map_cons, List.map_nil, zAT, spF] at h1 k ⊢
  refine Fn.of (fn := Tryz.f35) (by kernel_rfl) rfl (by kernel_rfl) ⟨[.agg [.sl f 1 (zS ns), .sl g 1 (zR us)], .agg [.v (.int .i64 sp.code), .v (.int .i64 sp.mem), .v (.int .i64 sp.stack), .v (.int .i64 sp.val), .sl false 1 (zM sp.ws)], .agg [.v (.int .i64 s.v), .v (.int .i64 s.l), .sl false 3 (zr s.code), .sl false 2 (za s.mem), .sl false 3 (zj s.stack), .sl false 2 (za s.out)], .v undef, .v undef, .v undef, .v undef, .v undef, .v undef, .v undef, .v undef, .v undef, .v undef, .v undef, .v undef, .v undef, .v undef, .v undef, .v undef, .v undef, .v undef, .v undef, .v undef, .v undef, .v undef, .v undef, .v undef, .v undef, .v undef], []⟩ rfl ?_
  simp only [mkP] at k
  rw [zFS hj, hj, zIJ] at k
  have hlC : (zw L).length = j + 1 := by rw [zAL, hj]
  have hcp : zAh 1 (j + 1) (zw L) = zM L := by rw [← hj]; exact zFb L
  have hbq : Nat.beq j j = true := Nat.beq_refl j
  repeat' first | (with_reducible first | refine zA ?_ | refine zB ?_ | refine zJ ?_) | ((first | with_reducible refine zC fun KC J hJ hKC => ?_ | (refine hKC _ _ _ _ _ (zT [5, 3] k rfl rfl rfl (by decide) (by simp) rfl rfl Lq ?_)) | (refine hKC _ _ _ _ _ (zE (h1) rfl rfl rfl ?_ ?_); (· exact Lq))); simp (maxSteps := 9999999) only [push_cast, seval, ↓reduceIte, bne_self_eq_false, zX, zN, zK, pick, mOf, idx, ren, ren2, ren1, ren0, zAE]) | ((with_reducible refine hJ _ _ ?_); clear hJ hKC KC J) | ((with_reducible refine zI ?_ ?_); · rfl)
  refine zAf 3 rfl (by simp (maxSteps := 9999999) only [push_cast, seval, ↓reduceIte]) ?_
  simp (maxSteps := 9999999) only [push_cast, seval, ↓reduceIte, zAK, zh, fr3, fr2, fr1, fr0, zp, zn, hbq, hlC, hcp]
  refine zF ?_
  refine zD ?_
  simp (maxSteps := 9999999) only [push_cast, seval, ↓reduceIte, show Tryz.f35.results = #[(.tmp 6), (.tmp 7)] from rfl]
  exact Lq
 ·have h0' : (m != 0) = true := by simpa using h0
  rw [if_neg h0]
  simp only [zEA, List.map_cons, List.map_nil, zAT, spF] at h1 ⊢
  refine Fn.of (fn := Tryz.f35) (by kernel_rfl) rfl (by kernel_rfl) ⟨[.agg [.sl f 1 (zS ns), .sl g 1 (zR us)], .agg [.v (.int .i64 sp.code), .v (.int .i64 sp.mem), .v (.int .i64 sp.stack), .v (.int .i64 sp.val), .sl false 1 (zM sp.ws)], .agg [.v (.int .i64 s.v), .v (.int .i64 s.l), .sl false 3 (zr s.code), .sl false 2 (za s.mem), .sl false 3 (zj s.stack), .sl false 2 (za s.out)], .v undef, .v undef, .v undef, .v undef, .v undef, .v undef, .v undef, .v undef, .v undef, .v undef, .v undef, .v undef, .v undef, .v undef, .v undef, .v undef, .v undef, .v undef, .v undef, .v undef, .v undef, .v undef, .v undef, .v undef, .v undef, .v undef], []⟩ rfl ?_
  repeat' first | (with_reducible first | refine zA ?_ | refine zB ?_ | refine zb ?_ | refine zF ?_) | ((first | with_reducible refine zC fun KC J hJ hKC => ?_ | (refine hKC _ _ _ _ _ (zE (h1) rfl rfl rfl ?_ ?_); (· exact Lq))); simp (maxSteps := 9999999) only [push_cast, seval, ↓reduceIte, h0']) | ((with_reducible refine hJ _ _ ?_); clear hJ hKC KC J) | ((with_reducible refine zG ?_ ?_); · rfl)
  refine zD ?_
  simp (maxSteps := 9999999) only [push_cast, seval, ↓reduceIte, show Tryz.f35.results = #[(.tmp 6), (.tmp 7)] from rfl]
  exact Lq
theorem zOP (ns : List ByteArray) (us : List Nat) (sp : Sp) (o : Int) (a b : Sta) (hs : Szs ns) (hu : U32 us) (hw : sp.ws.length ≤ 1000) (ha : Sml15 a) (hb : Sml15 b) :
  Fn Tryz.prog 36 [.agg [.sl false 1 (zS ns), .sl false 1 (zR us)], .agg (spF false sp), .v (.int .i64 o), .agg (zAT false false false false a), .agg (zAT false false false false b)] [] (.tup [.sl false 1 (zM (vaU ns us sp o a b)), .v (.int .i64 (zDU ns us sp o a b))]) [] := by
 have h1 := zMQ false false ns us sp o a b hs hu hw ha hb
 unfold vaU
 by_cases h0 : zDU ns us sp o a b = 0
 ·rw [if_pos h0]
  rw [h0] at h1 ⊢
  obtain ⟨hm, hia, hib, hok, hal⟩ := zIk.1 h0
  have ok := zOG hok
  obtain ⟨O, rfl, hO⟩ := zBV ok.ob
  rw [Int.toNat_natCast]
  have hul := zGz ok.chk
  have k := zOD ⟨false, false, ns, us, sp, O⟩ ⟨hs, hu, ok.chk, hO⟩ (by simp only; omega) false false false false false false false false a b ⟨by have := hb.code; omega, by have := hb.mem; omega, by have := hb.stack; omega, fun x hx _ => ok.cb x hx, ok.mb, ok.sb, ok.la, ok.lb⟩
  obtain ⟨L, hL⟩ : ∃ L, zAb sp us O a b = L := ⟨_, rfl⟩
  simp only [hL] at k ⊢
  simp only [zAT, spF] at h1 k ⊢
  cases hj : L.length with
  | zero =>
   have hL0 := List.length_eq_zero_iff.1 hj
   subst hL0
   simp only [mkP, zIo] at k
   rw [List.length_nil, zOw] at k
   refine Fn.of (fn := Tryz.f36) (by kernel_rfl) rfl (by kernel_rfl) ⟨[.agg [.sl false 1 (zS ns), .sl false 1 (zR us)], .agg [.v (.int .i64 sp.code), .v (.int .i64 sp.mem), .v (.int .i64 sp.stack), .v (.int .i64 sp.val), .sl false 1 (zM sp.ws)], .v (.int .i64 (O : Int)), .agg [.v (.int .i64 a.v), .v (.int .i64 a.l), .sl false 3 (zr a.code), .sl false 2 (za a.mem), .sl false 3 (zj a.stack), .sl false 2 (za a.out)], .agg [.v (.int .i64 b.v), .v (.int .i64 b.l), .sl false 3 (zr b.code), .sl false 2 (za b.mem), .sl false 3 (zj b.stack), .sl false 2 (za b.out)], .v undef, .v undef, .v undef, .v undef, .v undef, .v undef, .v undef, .v undef, .v undef, .v undef, .v undef, .v undef, .v undef, .v undef, .v undef, .v undef, .v undef, .v undef, .v undef, .v undef, .v undef, .v undef, .v undef, .v undef, .v undef, .v undef, .v undef, .v undef, .v undef, .v undef, .v undef], []⟩ rfl ?_
   repeat' first | (with_reducible first | refine zA ?_ | refine zB ?_ | refine zF ?_ | refine zJ ?_) | ((first | with_reducible refine zC fun KC J hJ hKC => ?_ | (refine hKC _ _ _ _ _ (zT [5, 4] k rfl rfl rfl (by decide) (by simp) rfl rfl Lq ?_)) | (refine hKC _ _ _ _ _ (zE (h1) rfl rfl rfl ?_ ?_); (· exact Lq))); simp (maxSteps := 9999999) only [push_cast, seval, ↓reduceIte, bne_self_eq_false, zX, zN, zK, pick, mOf, idx, ren, ren2, ren1, ren0, zAE]) | ((with_reducible refine hJ _ _ ?_); clear hJ hKC KC J) | ((with_reducible refine zI ?_ ?_); · rfl)
   refine zD ?_
   simp (maxSteps := 9999999) only [push_cast, seval, ↓reduceIte, show Tryz.f36.results = #[(.tmp 10), (.tmp 11)] from rfl]
   exact Lq
  | succ j =>
   simp only [mkP] at k
   rw [zFS hj, hj, zIJ] at k
   have hlC : (zw L).length = j + 1 := by rw [zAL, hj]
   have hcp : zAh 1 (j + 1) (zw L) = zM L := by rw [← hj]; exact zFb L
   have hbq : Nat.beq j j = true := Nat.beq_refl j
   refine Fn.of (fn := Tryz.f36) (by kernel_rfl) rfl (by kernel_rfl) ⟨[.agg [.sl false 1 (zS ns), .sl false 1 (zR us)], .agg [.v (.int .i64 sp.code), .v (.int .i64 sp.mem), .v (.int .i64 sp.stack), .v (.int .i64 sp.val), .sl false 1 (zM sp.ws)], .v (.int .i64 (O : Int)), .agg [.v (.int .i64 a.v), .v (.int .i64 a.l), .sl false 3 (zr a.code), .sl false 2 (za a.mem), .sl false 3 (zj a.stack), .sl false 2 (za a.out)], .agg [.v (.int .i64 b.v), .v (.int .i64 b.l), .sl false 3 (zr b.code), .sl false 2 (za b.mem), .sl false 3 (zj b.stack), .sl false 2 (za b.out)], .v undef, .v undef, .v undef, .v undef, .v undef, .v undef, .v undef, .v undef, .v undef, .v undef, .v undef, .v undef, .v undef, .v undef, .v undef, .v undef, .v undef, .v undef, .v undef, .v undef, .v undef, .v undef, .v undef, .v undef, .v undef, .v undef, .v undef, .v undef, .v undef, .v undef, .v undef], []⟩ rfl ?_
   repeat' first | (with_reducible first | refine zA ?_ | refine zB ?_ | refine zJ ?_) | ((first | with_reducible refine zC fun KC J hJ hKC => ?_ | (refine hKC _ _ _ _ _ (zT [5, 4] k rfl rfl rfl (by decide) (by simp) rfl rfl Lq ?_)) | (refine hKC _ _ _ _ _ (zE (h1) rfl rfl rfl ?_ ?_); (· exact Lq))); simp (maxSteps := 9999999) only [push_cast, seval, ↓reduceIte, bne_self_eq_false, zX, zN, zK, pick, mOf, idx, ren, ren2, ren1, ren0, zAE]) | ((with_reducible refine hJ _ _ ?_); clear hJ hKC KC J) | ((with_reducible refine zI ?_ ?_); · rfl)
   refine zAf 4 rfl (by simp (maxSteps := 9999999) only [push_cast, seval, ↓reduceIte]) ?_
   simp (maxSteps := 9999999) only [push_cast, seval, ↓reduceIte, zAK, zh, fr3, fr2, fr1, fr0, zp, zn, hbq, hlC, hcp]
   refine zF ?_
   refine zD ?_
   simp (maxSteps := 9999999) only [push_cast, seval, ↓reduceIte, show Tryz.f36.results = #[(.tmp 10), (.tmp 11)] from rfl]
   exact Lq
 ·rw [if_neg h0]
  obtain ⟨e, he⟩ : ∃ e, zDU ns us sp o a b = e := ⟨_, rfl⟩
  rw [he] at h0 h1 ⊢
  have h0' : (e != 0) = true := by simpa using h0
  simp only [zAT, spF] at h1 ⊢
  refine Fn.of (fn := Tryz.f36) (by kernel_rfl) rfl (by kernel_rfl) ⟨[.agg [.sl false 1 (zS ns), .sl false 1 (zR us)], .agg [.v (.int .i64 sp.code), .v (.int .i64 sp.mem), .v (.int .i64 sp.stack), .v (.int .i64 sp.val), .sl false 1 (zM sp.ws)], .v (.int .i64 o), .agg [.v (.int .i64 a.v), .v (.int .i64 a.l), .sl false 3 (zr a.code), .sl false 2 (za a.mem), .sl false 3 (zj a.stack), .sl false 2 (za a.out)], .agg [.v (.int .i64 b.v), .v (.int .i64 b.l), .sl false 3 (zr b.code), .sl false 2 (za b.mem), .sl false 3 (zj b.stack), .sl false 2 (za b.out)], .v undef, .v undef, .v undef, .v undef, .v undef, .v undef, .v undef, .v undef, .v undef, .v undef, .v undef, .v undef, .v undef, .v undef, .v undef, .v undef, .v undef, .v undef, .v undef, .v undef, .v undef, .v undef, .v undef, .v undef, .v undef, .v undef, .v undef, .v undef, .v undef, .v undef, .v undef], []⟩ rfl ?_
  repeat' first | (with_reducible first | refine zA ?_ | refine zB ?_ | refine zb ?_ | refine zF ?_) | ((first | with_reducible refine zC fun KC J hJ hKC => ?_ | (refine hKC _ _ _ _ _ (zE (h1) rfl rfl rfl ?_ ?_); (· exact Lq))); simp (maxSteps := 9999999) only [push_cast, seval, ↓reduceIte, h0']) | ((with_reducible refine hJ _ _ ?_); clear hJ hKC KC J) | ((with_reducible refine zG ?_ ?_); · rfl)
  refine zD ?_
  simp (maxSteps := 9999999) only [push_cast, seval, ↓reduceIte, show Tryz.f36.results = #[(.tmp 10), (.tmp 11)] from rfl]
  exact Lq
theorem zRv (f g : Bool) (ns : List ByteArray) (us : List Nat) (sp : Sp) (o : Int) (a b : Sta) (hs : Szs ns) (hu : U32 us) (hw : sp.ws.length ≤ 1000) (ha : Sml15 a) (hb : Sml15 b) :
  Fn Tryz.prog 37 [.agg [.sl false 1 (zS ns), .sl false 1 (zR us)], .agg (spF false sp), .v (.int .i64 o), .agg (zAT false false false false a), .agg (zAT false false false false b)] [] (.tup [.sl false 1 (zM (paU ns us sp o a b)), .v (.int .i64 (zDU ns us sp o a b))]) [] := by
 have h1 := zMQ false false ns us sp o a b hs hu hw ha hb
 unfold paU
 by_cases h0 : zDU ns us sp o a b = 0
 ·have h2 := zKf false false ns us sp a hs hu hw ha
  have h3 := zOP ns us sp o a b hs hu hw ha hb
  have ht := zIk.1 h0
  have hpl := (zJk ht).2
  have hms := zRi.2 ⟨ht.may, ht.ia⟩
  unfold stU at h2
  unfold vaU at h3
  rw [if_pos hms, hms] at h2
  rw [if_pos h0, h0] at h3
  rw [if_pos h0, h0]
  rw [h0] at h1
  have hpos := zJW sp a
  obtain ⟨A, hA⟩ : ∃ A, zBQ sp a = A := ⟨_, rfl⟩
  obtain ⟨B, hB⟩ : ∃ A, zAb sp us o.toNat a b = A := ⟨_, rfl⟩
  rw [hA] at h2 hpl hpos ⊢
  rw [hB] at h3 hpl ⊢
  have hfl : zAz [(false, A), (false, B)] = A ++ B := by simp [zAz]
  have h4 := zKd true [(false, A), (false, B)] (by rw [hfl, List.length_append]; omega) (by rw [hfl]; omega) (by simp)
  rw [hfl] at h4
  simp only [zEo, List.map_cons, List.map_nil] at h4
  simp only [zAT, spF] at h1 h2 h3 ⊢
  refine Fn.of (fn := Tryz.f37) (by kernel_rfl) rfl (by kernel_rfl) ⟨[.agg [.sl false 1 (zS ns), .sl false 1 (zR us)], .agg [.v (.int .i64 sp.code), .v (.int .i64 sp.mem), .v (.int .i64 sp.stack), .v (.int .i64 sp.val), .sl false 1 (zM sp.ws)], .v (.int .i64 o), .agg [.v (.int .i64 a.v), .v (.int .i64 a.l), .sl false 3 (zr a.code), .sl false 2 (za a.mem), .sl false 3 (zj a.stack), .sl false 2 (za a.out)], .agg [.v (.int .i64 b.v), .v (.int .i64 b.l), .sl false 3 (zr b.code), .sl false 2 (za b.mem), .sl false 3 (zj b.stack), .sl false 2 (za b.out)], .v undef, .v undef, .v undef, .v undef, .v undef, .v undef, .v undef, .v undef, .v undef, .v undef, .v undef, .v undef, .v undef, .v undef, .v undef, .v undef, .v undef, .v undef, .v undef, .v undef, .v undef, .v undef, .v undef, .v undef, .v undef, .v undef, .v undef, .v undef, .v undef, .v undef, .v undef, .v undef, .v undef, .v undef, .v undef, .v undef, .v undef, .v undef, .v undef, .v undef, .v undef], []⟩ rfl ?_
  repeat' first | (with_reducible first | refine zA ?_ | refine zB ?_ | refine zF ?_ | refine zJ ?_) | ((first | with_reducible refine zC fun KC J hJ hKC => ?_ | (refine hKC _ _ _ _ _ (zE (h1) rfl rfl rfl ?_ ?_); (· exact Lq)) | (refine hKC _ _ _ _ _ (zE (h2) rfl rfl rfl ?_ ?_); (· exact Lq)) | (refine hKC _ _ _ _ _ (zE (h3) rfl rfl rfl ?_ ?_); (· exact Lq)) | (refine hKC _ _ _ _ _ (zE (h4) rfl rfl rfl ?_ ?_); (· exact Lq))); simp (maxSteps := 9999999) only [push_cast, seval, ↓reduceIte, bne_self_eq_false]) | ((with_reducible refine hJ _ _ ?_); clear hJ hKC KC J) | ((with_reducible refine zI ?_ ?_); · rfl)
  refine zD ?_
  simp (maxSteps := 9999999) only [push_cast, seval, ↓reduceIte, show Tryz.f37.results = #[(.tmp 10), (.tmp 11)] from rfl]
  exact Lq
 ·rw [if_neg h0]
  obtain ⟨e, he⟩ : ∃ e, zDU ns us sp o a b = e := ⟨_, rfl⟩
  rw [he] at h0 h1 ⊢
  have h0' : (e != 0) = true := by simpa using h0
  simp only [zAT, spF] at h1 ⊢
  refine Fn.of (fn := Tryz.f37) (by kernel_rfl) rfl (by kernel_rfl) ⟨[.agg [.sl false 1 (zS ns), .sl false 1 (zR us)], .agg [.v (.int .i64 sp.code), .v (.int .i64 sp.mem), .v (.int .i64 sp.stack), .v (.int .i64 sp.val), .sl false 1 (zM sp.ws)], .v (.int .i64 o), .agg [.v (.int .i64 a.v), .v (.int .i64 a.l), .sl false 3 (zr a.code), .sl false 2 (za a.mem), .sl false 3 (zj a.stack), .sl false 2 (za a.out)], .agg [.v (.int .i64 b.v), .v (.int .i64 b.l), .sl false 3 (zr b.code), .sl false 2 (za b.mem), .sl false 3 (zj b.stack), .sl false 2 (za b.out)], .v undef, .v undef, .v undef, .v undef, .v undef, .v undef, .v undef, .v undef, .v undef, .v undef, .v undef, .v undef, .v undef, .v undef, .v undef, .v undef, .v undef, .v undef, .v undef, .v undef, .v undef, .v undef, .v undef, .v undef, .v undef, .v undef, .v undef, .v undef, .v undef, .v undef, .v undef, .v undef, .v undef, .v undef, .v undef, .v undef, .v undef, .v undef, .v undef, .v undef, .v undef], []⟩ rfl ?_
  repeat' first | (with_reducible first | refine zA ?_ | refine zB ?_ | refine zb ?_ | refine zF ?_) | ((first | with_reducible refine zC fun KC J hJ hKC => ?_ | (refine hKC _ _ _ _ _ (zE (h1) rfl rfl rfl ?_ ?_); (· exact Lq))); simp (maxSteps := 9999999) only [push_cast, seval, ↓reduceIte, h0']) | ((with_reducible refine hJ _ _ ?_); clear hJ hKC KC J) | ((with_reducible refine zG ?_ ?_); · rfl)
  refine zD ?_
  simp (maxSteps := 9999999) only [push_cast, seval, ↓reduceIte, show Tryz.f37.results = #[(.tmp 10), (.tmp 11)] from rfl]
  exact Lq
theorem zSB (f g : Bool) (ns : List ByteArray) (us : List Nat) :
  Fn Tryz.prog 33 [.agg [.sl f 1 (zS ns), .sl g 1 (zR us)]] [] (.agg [.sl false 1 (zS ((ns.take 10).map zJi)), .sl false 1 (zR (us.take 10))]) [] := by
 refine Fn.of (fn := Tryz.f33) (by kernel_rfl) rfl (by kernel_rfl) ⟨[.agg [.sl f 1 (zS ns), .sl g 1 (zR us)], .v undef, .v undef, .v undef, .v undef, .v undef, .v undef, .v undef, .v undef, .v undef, .v undef, .v undef, .v undef, .v undef, .v undef, .v undef, .v undef, .v undef, .v undef, .v undef, .v undef, .v undef, .v undef, .v undef, .v undef, .v undef, .v undef, .v undef, .v undef, .v undef, .v undef, .v undef, .v undef, .v undef, .v undef, .v undef, .v undef, .v undef], []⟩ rfl ?_
 repeat' first | (with_reducible first | refine zA ?_ | refine zB ?_ | refine zH ?_) | ((with_reducible refine And.intro ?_ ?_); · exact Sq) | ((with_reducible refine zC fun KC J hJ hKC => ?_); simp (maxSteps := 9999999) only [push_cast, seval, ↓reduceIte, zDW (K := 10) (k := 10) rfl ns, zDW (K := 10) (k := 10) rfl us]) | ((with_reducible refine hJ _ _ ?_); clear hJ hKC KC J)
 obtain ⟨xs, hxs⟩ : ∃ xs, ns.take 10 = xs := ⟨_, rfl⟩
 have hx10 : xs.length ≤ 10 := by rw [← hxs]; simp; omega
 rw [hxs]
 refine zAI (γ := {i : Nat // i ≤ xs.length}) (fun i => ⟨[.any, .ptr 0 0 0, .ptr 1 0 0, .ptr 2 0 0, .any, .any, .any, .any, .any, .any, .any, .any, .any, .any, .any, .any, .any, .any, .any, .any, .sl false 1 (zS xs), .v (.int .i64 xs.length), .v (.int .i64 i.1), .any, .any, .any, .any, .any, .any, .any, .any, .any, .any, .any, .any, .any, .any, .any], fσ ⟨0, none, 25, [.sl f 1 (zS ns), .sl g 1 (zR us)], .cells⟩ ⟨0, none, 25, [.v (.slice none 0 0), .v (.slice none 0 0)], .cells⟩ (.sl false 1 (zR (us.take 10))) xs i.1⟩) (fun i => xs.length - i.1) ⟨0, by simp⟩ ⟨?_, ?_⟩ ?_
 ·exact Lq
 ·simp only [fσ]
  exact Fq
 rintro ⟨i, hi⟩
 obtain ⟨e1, he1⟩ : ∃ e1 : Ent, ⟨0, none, 25, [.sl f 1 (zS ns), .sl g 1 (zR us)], .cells⟩ = e1 := ⟨_, rfl⟩
 rw [he1]
 by_cases hlt : (i : Int) < (xs.length : Int)
 ·have hx : xs[i]? = some xs[i] := List.getElem?_eq_getElem (by omega)
  obtain ⟨a, ha⟩ : ∃ a, xs[i] = a := ⟨_, rfl⟩
  rw [ha] at hx
  have hcut : a.extract 0 (if (15 : Int) < (a.size : Int) then 15 else (a.size : Int)).toNat = zJi a := rfl
  rcases Nat.eq_zero_or_pos i with rfl | hpos
  ·have hσ := zOz e1 ⟨0, none, 25, [.v (.slice none 0 0), .v (.slice none 0 0)], .cells⟩ (.sl false 1 (zR (us.take 10))) xs
   have hσ1 := zUj e1 ⟨0, none, 25, [.v (.slice none 0 0), .v (.slice none 0 0)], .cells⟩ (.sl false 1 (zR (us.take 10))) xs hx
   have hlt0 : (0 : Int) < xs.length := hlt
   repeat' first | (with_reducible first | refine zA ?_ | refine zB ?_ | refine zP ?_ | refine zJ ?_ | refine zH ?_) | ((with_reducible refine And.intro ?_ ?_); · exact Sq) | ((first | with_reducible refine zC fun KC J hJ hKC => ?_ | with_reducible refine zY rfl fun KC J hJ hKC => ?_); simp (maxSteps := 9999999) only [push_cast, seval, ↓reduceIte, hlt0, hσ, zDd hx, hcut]) | ((first | with_reducible refine hJ _ _ ?_ | (with_reducible refine hJ _ _ ?_ ?_; · kernel_rfl)); clear hJ hKC KC J) | ((with_reducible refine zG ?_ ?_); · rfl)
   refine ⟨⟨0 + 1, by omega⟩, by simp only; omega, ?_, ?_⟩
   ·exact Lq
   ·simp only [hσ1]
    exact Fq
  ·obtain ⟨i', hi'⟩ : ∃ i', i = i' + 1 := ⟨i - 1, by omega⟩
   have hσ := zLP e1 ⟨0, none, 25, [.v (.slice none 0 0), .v (.slice none 0 0)], .cells⟩ (.sl false 1 (zR (us.take 10))) xs hi'
   have hσ1 := zTw e1 ⟨0, none, 25, [.v (.slice none 0 0), .v (.slice none 0 0)], .cells⟩ (.sl false 1 (zR (us.take 10))) xs hi' hx
   have hlS : (zDS (zEz xs i)).length = i := by simp [zDS, zFC hi]
   have htS := zGn hlS
   have htS' : (zDS (zEz xs i)).take i = zDS (zEz xs i) := List.take_of_length_le (by omega)
   have hbq : Nat.beq i' i' = true := Nat.beq_refl i'
   repeat' first | (with_reducible first | refine zA ?_ | refine zB ?_ | refine zP ?_ | refine zJ ?_ | refine zH ?_) | ((with_reducible refine And.intro ?_ ?_); · exact Sq) | ((first | with_reducible refine zC fun KC J hJ hKC => ?_ | with_reducible refine zY rfl fun KC J hJ hKC => ?_); simp (maxSteps := 9999999) only [push_cast, seval, ↓reduceIte, hlt, hσ, zDd hx, hcut, hbq, hlS, htS, htS', zo (i := i) (n := xs.length) (by omega) (by omega)]) | ((first | with_reducible refine hJ _ _ ?_ | (with_reducible refine hJ _ _ ?_ ?_; · kernel_rfl)); clear hJ hKC KC J) | ((with_reducible refine zG ?_ ?_); · rfl)
   refine ⟨⟨i + 1, by omega⟩, by simp only; omega, ?_, ?_⟩
   ·exact Lq
   ·simp only [hσ1]
    exact Fq
 ·have hix : i = xs.length := by omega
  have hfin : zEz xs i = xs.map zJi := by rw [zEz, hix, List.take_length]
  rcases Nat.eq_zero_or_pos i with rfl | hpos
  ·have hσ := zOz e1 ⟨0, none, 25, [.v (.slice none 0 0), .v (.slice none 0 0)], .cells⟩ (.sl false 1 (zR (us.take 10))) xs
   have hlt0 : ¬ (0 : Int) < xs.length := hlt
   repeat' first | (with_reducible first | refine zA ?_ | refine zB ?_ | refine zm ?_ | refine zl ?_ | refine zF ?_ | refine zZ ?_) | ((with_reducible refine zC fun KC J hJ hKC => ?_); simp (maxSteps := 9999999) only [push_cast, seval, ↓reduceIte, hlt0, hσ]) | ((with_reducible refine hJ _ _ ?_); clear hJ hKC KC J) | ((with_reducible refine zI ?_ ?_); · rfl)
   refine zD ?_
   simp (maxSteps := 9999999) only [push_cast, seval, ↓reduceIte, show Tryz.f33.results = #[(.cell 2 25)] from rfl]
   rw [← hfin]
   exact Lq
  ·obtain ⟨i', hi'⟩ : ∃ i', i = i' + 1 := ⟨i - 1, by omega⟩
   have hσ := zLP e1 ⟨0, none, 25, [.v (.slice none 0 0), .v (.slice none 0 0)], .cells⟩ (.sl false 1 (zR (us.take 10))) xs hi'
   have hbq : Nat.beq i' i' = true := Nat.beq_refl i'
   have hlS : (zDS (zEz xs i)).length = i := by simp [zDS, zFC hi]
   have hcS : zAh 1 i (zDS (zEz xs i)) = zS (zEz xs i) := by
    have := zHI (fun s : ByteArray => (.v (.string s) : D)) (zEz xs i)
    rw [zFC hi] at this; exact this
   subst he1
   repeat' first | (with_reducible first | refine zA ?_ | refine zB ?_ | refine zm ?_ | refine zl ?_ | refine zZ ?_) | ((with_reducible refine zC fun KC J hJ hKC => ?_); simp (maxSteps := 9999999) only [push_cast, seval, ↓reduceIte, hlt, hσ]) | ((with_reducible refine hJ _ _ ?_); clear hJ hKC KC J) | ((with_reducible refine zI ?_ ?_); · rfl)
   refine zAf 4 rfl (by simp (maxSteps := 9999999) only [push_cast, seval, ↓reduceIte]) ?_
   simp (maxSteps := 9999999) only [push_cast, seval, ↓reduceIte, zAK, zh, fr3, fr2, fr1, fr0, zp, zn, hbq, hlS, hcS]
   refine zF ?_
   refine zD ?_
   simp (maxSteps := 9999999) only [push_cast, seval, ↓reduceIte, show Tryz.f33.results = #[(.cell 2 25)] from rfl]
   rw [← hfin]
   exact Lq
def zKN : List ByteArray := [{ data := #[97] }, { data := #[98] }]
@[reducible] def zSO : Sp := ⟨0, 2, 0, 5, List.replicate 13 1⟩
@[reducible] def s17 : Sta := ⟨0, 0, [], [(-1, 1)], [], []⟩
theorem zNu : Fn Tryz.prog 40 [] [] (.v (.bool true)) [] := by
 have hs : Szs zKN := by
  intro s hs
  simp only [zKN, List.mem_cons, List.not_mem_nil, or_false] at hs
  rcases hs with rfl | rfl <;> (show 1 ≤ _; omega)
 have hu : U32 [3, 2] := by
  intro u hu
  simp at hu
  rcases hu with rfl | rfl <;> decide
 have sa : Sml15 s17 := ⟨by decide, by decide, by decide, by decide⟩
 have hrep : RleF [.v (.int .i64 0), .v (.int .i64 0), .sl false 3 [], .sl true 2 (za [(-1, 1)]), .sl false 3 [], .sl false 2 []] (zAT false false false false s17) :=
  .cons (.refl _) (.cons (.refl _) (.cons (.refl _) (.cons (.full _ _) (.cons (.refl _) (.cons (.refl _) .nil)))))
 have h1 := (zKf true true zKN [3, 2] zSO s17 hs hu (by simp) sa).pre (args := [.agg [.sl true 1 (zS zKN), .sl true 1 (zR [3, 2])], .agg (spF true zSO), .agg [.v (.int .i64 0), .v (.int .i64 0), .sl false 3 [], .sl true 2 (za [(-1, 1)]), .sl false 3 [], .sl false 2 []]])
  (.cons (.refl _) (.cons (.agg (.cons (.refl _) (.cons (.refl _) (.cons (.refl _) (.cons (.refl _) (.cons (.full _ _) .nil)))))) (.cons (.agg hrep) .nil)))
 rw [show stU zKN [3, 2] zSO s17 = [0, 1, 2, 1, 0, 0, 0] by kernel_rfl, show zDQ zKN [3, 2] zSO s17 = 0 by kernel_rfl] at h1
 simp only [spF, zSO, zAT] at h1
 have h2 := (zRh false false [0, 1, 2, 1, 0, 0, 0] [0, 1, 2, 1, 0, 0, 0] (by decide)).pre (args := [.sl false 1 (zM [0, 1, 2, 1, 0, 0, 0]), .sl true 1 (zM [0, 1, 2, 1, 0, 0, 0])]) (.cons (.refl _) (.cons (.full _ _) .nil))
 rw [decide_eq_true rfl] at h2
 refine Fn.of (fn := Tryz.f40) (by kernel_rfl) rfl (by kernel_rfl) ⟨[.v undef, .v undef, .v undef, .v undef, .v undef, .v undef, .v undef, .v undef, .v undef, .v undef, .v undef, .v undef, .v undef, .v undef, .v undef, .v undef, .v undef, .v undef, .v undef, .v undef, .v undef, .v undef, .v undef, .v undef, .v undef, .v undef], []⟩ rfl ?_
 repeat' first | (with_reducible first | refine zA ?_ | refine zB ?_ | refine zF ?_) | ((first | with_reducible refine zC fun KC J hJ hKC => ?_ | (refine hKC _ _ _ _ _ (zE (h1) rfl rfl rfl ?_ ?_); (· exact Lq)) | (refine hKC _ _ _ _ _ (zE (h2) rfl rfl rfl ?_ ?_); (· exact Lq))); simp (maxSteps := 9999999) only [push_cast, seval, ↓reduceIte, beq_self_eq_true, undef]) | ((with_reducible refine hJ _ _ ?_); clear hJ hKC KC J)
 refine zD ?_
 simp (maxSteps := 9999999) only [push_cast, seval, ↓reduceIte, show Tryz.f40.results = #[(.tmp 0)] from rfl]
 exact Lq
theorem zNP {ns : List ByteArray} {us : List Nat} {sp : Sp} {l : List Int} (hl : l.length ≤ 500) : Sml (zCO ns us sp ⟨l, 0, []⟩).2.1 := ((zNx (ns := ns) (us := us) (sp := sp) (d := ⟨l, 0, []⟩) (by simp only; omega) (by simp)).1).sml
theorem unpickLeast_fn (f g fl : Bool) (ns : List ByteArray) (us : List Nat) (sp : Sp) (o : Int) (l : List Int) (hu0 : U32 us) :
  Fn Tryz.prog 9 [.agg [.sl f 1 (zS ns), .sl g 1 (zR us)], .agg (spF false sp), .v (.int .i64 o), .sl false 1 (zM l)] [] (.v (.bool true)) [] := by
 have hs := zSh ns
 have hu := zTK hu0
 have h1 := zSB f g ns us
 obtain ⟨xs, hxs⟩ : ∃ xs, (ns.take 10).map zJi = xs := ⟨_, rfl⟩
 obtain ⟨ys, hys⟩ : ∃ xs, us.take 10 = xs := ⟨_, rfl⟩
 rw [hxs] at hs h1
 rw [hys] at hu h1
 obtain ⟨q, hq⟩ : ∃ q, zTy sp = q := ⟨_, rfl⟩
 have hqw : q.ws.length ≤ 1000 := by rw [← hq]; simp [zTy]; omega
 have q1 : sp.code = q.code := by rw [← hq]; rfl
 have q2 : sp.mem = q.mem := by rw [← hq]; rfl
 have q3 : sp.stack = q.stack := by rw [← hq]; rfl
 have q4 : sp.val = q.val := by rw [← hq]; rfl
 have q5 : sp.ws.take 16 = q.ws := by rw [← hq]; rfl
 have h6 := zNu
 obtain ⟨L, hL⟩ : ∃ L, l.take 500 = L := ⟨_, rfl⟩
 have hLl : L.length ≤ 500 := by rw [← hL]; simp; omega
 have n1 := zIu false L
 have h3 := zPP false false xs ys q o ⟨L, 0, []⟩ hs hu hqw (fun _ => zNP hLl)
 rcases zMX xs ys q o L hLl with ⟨e, he, hg⟩ | ⟨d, a, b, hg, ht, sa, sb, hdl⟩
 ·have he' : (e != 0) = true := by simpa using he
  simp only [hg, Dr.z, Sta.z, zAT, zBK, spF] at h3
  simp only [spF]
  refine Fn.of (fn := Tryz.f9) (by kernel_rfl) rfl (by kernel_rfl) ⟨[.agg [.sl f 1 (zS ns), .sl g 1 (zR us)], .agg [.v (.int .i64 sp.code), .v (.int .i64 sp.mem), .v (.int .i64 sp.stack), .v (.int .i64 sp.val), .sl false 1 (zM sp.ws)], .v (.int .i64 o), .sl false 1 (zM l), .v undef, .v undef, .v undef, .v undef, .v undef, .v undef, .v undef, .v undef, .v undef, .v undef, .v undef, .v undef, .v undef, .v undef, .v undef, .v undef, .v undef, .v undef, .v undef, .v undef, .v undef, .v undef, .v undef, .v undef, .v undef, .v undef, .v undef, .v undef, .v undef, .v undef, .v undef, .v undef, .v undef, .v undef, .v undef, .v undef, .v undef, .v undef, .v undef, .v undef, .v undef, .v undef, .v undef, .v undef, .v undef, .v undef, .v undef, .v undef, .v undef, .v undef, .v undef, .v undef, .v undef, .v undef, .v undef, .v undef, .v undef, .v undef, .v undef, .v undef, .v undef, .v undef, .v undef, .v undef, .v undef, .v undef, .v undef, .v undef, .v undef, .v undef, .v undef, .v undef, .v undef, .v undef, .v undef, .v undef, .v undef, .v undef, .v undef, .v undef, .v undef, .v undef, .v undef, .v undef, .v undef, .v undef, .v undef, .v undef, .v undef, .v undef, .v undef, .v undef, .v undef, .v undef, .v undef, .v undef, .v undef], []⟩ rfl ?_
  repeat' first | (with_reducible first | refine zA ?_ | refine zB ?_ | refine zb ?_ | refine zF ?_) | ((with_reducible refine And.intro ?_ ?_); · exact Sq) | ((first | with_reducible refine zC fun KC J hJ hKC => ?_ | with_reducible refine zY rfl fun KC J hJ hKC => ?_ | (refine hKC _ _ _ _ _ (zE (h1) rfl rfl rfl ?_ ?_); (· exact Lq)) | (refine hKC _ _ _ _ _ (zE (h3) rfl rfl rfl ?_ ?_); (· exact Lq)) | (refine hKC _ _ _ _ _ (zE (h6) rfl rfl rfl ?_ ?_); (· exact Lq)) | (refine hKC _ _ _ _ _ (zE (n1) rfl rfl rfl ?_ ?_); (· exact Lq))); simp (maxSteps := 9999999) only [push_cast, seval, ↓reduceIte, q1, q2, q3, q4, q5, zDW (K := 16) (k := 16) rfl sp.ws, zDW (K := 500) (k := 500) rfl l, hL, he', undef, beq_self_eq_true]) | ((first | with_reducible refine hJ _ _ ?_ | (with_reducible refine hJ _ _ ?_ ?_; · kernel_rfl)); clear hJ hKC KC J) | ((with_reducible refine zG ?_ ?_); · rfl)
  refine zD ?_
  simp (maxSteps := 9999999) only [push_cast, seval, ↓reduceIte, show Tryz.f9.results = #[(.tmp 8)] from rfl]
  exact Lq
 rw [hg] at h3
 obtain ⟨hp, hpl⟩ := zJk ht
 have h4 := zRv false false xs ys q o a b hs hu hqw sa sb
 have hb0 := zIk.2 ht
 unfold paU at h4
 rw [if_pos hb0, hb0] at h4
 obtain ⟨Z, hZ⟩ : ∃ Z, zBQ q a ++ zAb q ys o.toNat a b = Z := ⟨_, rfl⟩
 rw [hZ] at hp hpl h4 hdl
 have n2 := zIu false Z
 have h5 := zPP false false xs ys q o ⟨Z, 0, []⟩ hs hu hqw (fun _ => zNP (by omega))
 rw [hp] at h5
 have z1 := zKL a a sa sa
 have z2 := zKL b b sb sb
 rw [show zKx a a = true from zKg.2 rfl] at z1
 rw [show zKx b b = true from zKg.2 rfl] at z2
 have hzl : (zM Z).length = (zM d.g).length := by simp [zM, hdl]
 simp only [zAT, zBK, spF] at h3 h4 h5 z1 z2 ⊢
 refine Fn.of (fn := Tryz.f9) (by kernel_rfl) rfl (by kernel_rfl) ⟨[.agg [.sl f 1 (zS ns), .sl g 1 (zR us)], .agg [.v (.int .i64 sp.code), .v (.int .i64 sp.mem), .v (.int .i64 sp.stack), .v (.int .i64 sp.val), .sl false 1 (zM sp.ws)], .v (.int .i64 o), .sl false 1 (zM l), .v undef, .v undef, .v undef, .v undef, .v undef, .v undef, .v undef, .v undef, .v undef, .v undef, .v undef, .v undef, .v undef, .v undef, .v undef, .v undef, .v undef, .v undef, .v undef, .v undef, .v undef, .v undef, .v undef, .v undef, .v undef, .v undef, .v undef, .v undef, .v undef, .v undef, .v undef, .v undef, .v undef, .v undef, .v undef, .v undef, .v undef, .v undef, .v undef, .v undef, .v undef, .v undef, .v undef, .v undef, .v undef, .v undef, .v undef, .v undef, .v undef, .v undef, .v undef, .v undef, .v undef, .v undef, .v undef, .v undef, .v undef, .v undef, .v undef, .v undef, .v undef, .v undef, .v undef, .v undef, .v undef, .v undef, .v undef, .v undef, .v undef, .v undef, .v undef, .v undef, .v undef, .v undef, .v undef, .v undef, .v undef, .v undef, .v undef, .v undef, .v undef, .v undef, .v undef, .v undef, .v undef, .v undef, .v undef, .v undef, .v undef, .v undef, .v undef, .v undef, .v undef, .v undef, .v undef, .v undef, .v undef], []⟩ rfl ?_
 repeat' first | (with_reducible first | refine zA ?_ | refine zB ?_ | refine zF ?_ | refine zJ ?_) | ((with_reducible refine And.intro ?_ ?_); · exact Sq) | ((first | with_reducible refine zC fun KC J hJ hKC => ?_ | with_reducible refine zY rfl fun KC J hJ hKC => ?_ | (refine hKC _ _ _ _ _ (zE (h1) rfl rfl rfl ?_ ?_); (· exact Lq)) | (refine hKC _ _ _ _ _ (zE (h3) rfl rfl rfl ?_ ?_); (· exact Lq)) | (refine hKC _ _ _ _ _ (zE (h4) rfl rfl rfl ?_ ?_); (· exact Lq)) | (refine hKC _ _ _ _ _ (zE (h5) rfl rfl rfl ?_ ?_); (· exact Lq)) | (refine hKC _ _ _ _ _ (zE (h6) rfl rfl rfl ?_ ?_); (· exact Lq)) | (refine hKC _ _ _ _ _ (zE (n1) rfl rfl rfl ?_ ?_); (· exact Lq)) | (refine hKC _ _ _ _ _ (zE (n2) rfl rfl rfl ?_ ?_); (· exact Lq)) | (refine hKC _ _ _ _ _ (zE (z1) rfl rfl rfl ?_ ?_); (· exact Lq)) | (refine hKC _ _ _ _ _ (zE (z2) rfl rfl rfl ?_ ?_); (· exact Lq))); simp (maxSteps := 9999999) only [push_cast, seval, ↓reduceIte, q1, q2, q3, q4, q5, zDW (K := 16) (k := 16) rfl sp.ws, zDW (K := 500) (k := 500) rfl l, hL, hzl, undef, beq_self_eq_true, bne_self_eq_false]) | ((first | with_reducible refine hJ _ _ ?_ | (with_reducible refine hJ _ _ ?_ ?_; · kernel_rfl)); clear hJ hKC KC J) | ((with_reducible refine zI ?_ ?_); · rfl)
 refine zD ?_
 simp (maxSteps := 9999999) only [push_cast, seval, ↓reduceIte, show Tryz.f9.results = #[(.tmp 8)] from rfl]
 exact Lq
abbrev zOW : Kk := .int .i64
abbrev zRF : Kk := .sl zOW
theorem conf_int : Conf Tryz.prog (.ty 3) zOW := .int Tryz.underlying3
theorem conf_ints : Conf Tryz.prog (.ty 26) zRF := .sl Tryz.underlying26 (by kernel_rfl) (by decide) conf_int
theorem is_int {e : D} (h : Shape zOW [e]) : ∃ n, e = .v (.int .i64 n) := by obtain ⟨n, rfl, _⟩ := zLA h; exact ⟨n, rfl⟩
theorem is_ints {e : D} (h : Shape zRF [e]) : ∃ l, e = .sl false 1 (zM l) ∧ l.length ≤ maxLen := by
 obtain ⟨xs, rfl, h1, h2⟩ := zJU h
 obtain ⟨l, rfl⟩ := zEg (fun n : Int => [D.v (.int .i64 n)]) (fun x hx => by
  obtain ⟨e, rfl, he⟩ := zBi hx rfl
  obtain ⟨n, rfl⟩ := is_int he
  exact ⟨n, rfl⟩) h1
 exact ⟨l, rfl, by simpa using h2⟩
abbrev zUl : Kk := .str
abbrev zSR : Kk := .sl zUl
abbrev zUm : Kk := .int .u32
abbrev zSG : Kk := .sl zUm
abbrev zVM : Kk := .pair zSR (.pair zSG .unit)
theorem zRT : Conf Tryz.prog (.ty 9) zUl := .str Tryz.underlying9
theorem zPt : Conf Tryz.prog (.ty 22) zSR := .sl Tryz.underlying22 (by kernel_rfl) (by decide) zRT
theorem zRn : Conf Tryz.prog (.ty 98) zUm := .int Tryz.underlying98
theorem zQB : Conf Tryz.prog (.ty 23) zSG := .sl Tryz.underlying23 (by kernel_rfl) (by decide) zRn
theorem conf_lat : Conf Tryz.prog (.ty 25) (.st zVM) := .st Tryz.underlying25 (by kernel_rfl) (.pair rfl (by kernel_rfl) zPt (.pair rfl (by kernel_rfl) zQB .unit))
theorem zUt {e : D} (h : Shape zUl [e]) : ∃ s : ByteArray, e = .v (.string s) ∧ s.size ≤ maxLen := zPf h
theorem zSv {e : D} (h : Shape zSR [e]) : ∃ l, e = .sl false 1 (zS l) ∧ (∀ s ∈ l, s.size ≤ maxLen) ∧ l.length ≤ maxLen := by
 obtain ⟨xs, rfl, h1, h2⟩ := zJU h
 obtain ⟨l, rfl⟩ := zEg (fun s : { s : ByteArray // s.size ≤ maxLen } => [D.v (.string s.1)]) (fun x hx => by
  obtain ⟨e, rfl, he⟩ := zBi hx rfl
  obtain ⟨n, rfl, hn⟩ := zUt he
  exact ⟨⟨n, hn⟩, rfl⟩) h1
 refine ⟨l.map (·.1), by simp [zS, List.map_map]; rfl, fun s hs => ?_, by simpa using h2⟩
 obtain ⟨x, _, rfl⟩ := List.mem_map.1 hs
 exact x.2
theorem zUZ {e : D} (h : Shape zUm [e]) : ∃ u : Nat, e = .v (.int .u32 (uv u)) ∧ u < 2 ^ 32 := by
 obtain ⟨n, rfl, hw⟩ := zLA h
 have h2 : 0 ≤ n ∧ n < 4294967296 := by
  simp only [Lit.wf, Bool.and_eq_true, decide_eq_true_eq] at hw
  have e1 : IntKind.u32.min = 0 := rfl
  have e2 : IntKind.u32.max = 4294967295 := by decide
  omega
 refine ⟨n.toNat, ?_, by omega⟩
 rw [uv, Int.toNat_of_nonneg h2.1]
theorem zTE {e : D} (h : Shape zSG [e]) : ∃ l, e = .sl false 1 (zR l) ∧ U32 l ∧ l.length ≤ maxLen := by
 obtain ⟨xs, rfl, h1, h2⟩ := zJU h
 obtain ⟨l, rfl⟩ := zEg (fun u : { u : Nat // u < 2 ^ 32 } => [D.v (.int .u32 (uv u.1))]) (fun x hx => by
  obtain ⟨e, rfl, he⟩ := zBi hx rfl
  obtain ⟨n, rfl, hn⟩ := zUZ he
  exact ⟨⟨n, hn⟩, rfl⟩) h1
 refine ⟨l.map (·.1), by simp [zR, List.map_map]; rfl, fun s hs => ?_, by simpa using h2⟩
 obtain ⟨x, _, rfl⟩ := List.mem_map.1 hs
 exact x.2
structure NsOk (ns : List ByteArray) : Prop where
 szs : Szs ns
 len : ns.length ≤ maxLen
structure UsOk (us : List Nat) : Prop where
 u32 : U32 us
 len : us.length ≤ maxLen
theorem is_lat {ds : List D} (h : Shape zVM ds) : ∃ ns us, D.agg ds = .agg [.sl false 1 (zS ns), .sl false 1 (zR us)] ∧ NsOk ns ∧ UsOk us := by
 obtain ⟨a, b, rfl, h1, h2⟩ := zCV h
 obtain ⟨c, d, rfl, h3, h4⟩ := zCV h2
 cases zIh h4
 obtain ⟨e1, rfl, h1⟩ := zBi h1 rfl
 obtain ⟨e2, rfl, h3⟩ := zBi h3 rfl
 obtain ⟨ns, rfl, h5, h6⟩ := zSv h1
 obtain ⟨us, rfl, h7, h8⟩ := zTE h3
 exact ⟨ns, us, rfl, ⟨fun s hs => Nat.le_trans (h5 s hs) (by decide), h6⟩, ⟨h7, h8⟩⟩
abbrev zRa : Kk := .pair zOW (.pair zOW (.pair zOW (.pair zOW (.pair zRF .unit))))
theorem conf_space : Conf Tryz.prog (.ty 28) (.st zRa) := .st Tryz.underlying28 (by kernel_rfl) (.pair rfl (by kernel_rfl) conf_int (.pair rfl (by kernel_rfl) conf_int (.pair rfl (by kernel_rfl) conf_int (.pair rfl (by kernel_rfl) conf_int (.pair rfl (by kernel_rfl) conf_ints .unit)))))
theorem is_space {ds : List D} (h : Shape zRa ds) : ∃ sp : Sp, D.agg ds = .agg (spF false sp) := by
 obtain ⟨a1, b1, rfl, h1, g1⟩ := zCV h
 obtain ⟨a2, b2, rfl, h2, g2⟩ := zCV g1
 obtain ⟨a3, b3, rfl, h3, g3⟩ := zCV g2
 obtain ⟨a4, b4, rfl, h4, g4⟩ := zCV g3
 obtain ⟨a5, b5, rfl, h5, g5⟩ := zCV g4
 cases zIh g5
 obtain ⟨e1, rfl, h1⟩ := zBi h1 rfl
 obtain ⟨e2, rfl, h2⟩ := zBi h2 rfl
 obtain ⟨e3, rfl, h3⟩ := zBi h3 rfl
 obtain ⟨e4, rfl, h4⟩ := zBi h4 rfl
 obtain ⟨e5, rfl, h5⟩ := zBi h5 rfl
 obtain ⟨n1, rfl⟩ := is_int h1
 obtain ⟨n2, rfl⟩ := is_int h2
 obtain ⟨n3, rfl⟩ := is_int h3
 obtain ⟨n4, rfl⟩ := is_int h4
 obtain ⟨ws, rfl, _⟩ := is_ints h5
 exact ⟨⟨n1, n2, n3, n4, ws⟩, rfl⟩
end Go.Proofs.YtabliglgeiajlaaGreat.AM
