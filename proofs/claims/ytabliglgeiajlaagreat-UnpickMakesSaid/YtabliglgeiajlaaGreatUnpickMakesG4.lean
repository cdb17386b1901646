/- Walks and plain laws, put together: part 4. -/
import Derived.Test.YtabliglgeiajlaaGreatUnpickMakesG3
import Derived.Test.YtabliglgeiajlaaGreatUnpickMakesG1
import Derived.Test.YtabliglgeiajlaaGreatUnpickMakesG2
import Derived.Test.YtabliglgeiajlaaGreatUnpickMakesG0
import Derived.Test.YtabliglgeiajlaaGreatMc
set_option linter.unusedSimpArgs false
set_option linter.unusedVariables false
namespace Go.Proofs.YtabliglgeiajlaaGreat.AM
open Go Go.RowKit Go.Proofs
set_option maxRecDepth 100000
set_option maxHeartbeats 4000000
theorem zRz {n : Nat} {sp : Sp} {s : Sta} (h : zDx n sp s = true) : Sml15 s := by
 simp only [zDx, zIl, zFd, Bool.and_eq_true, decide_eq_true_eq] at h
 obtain ⟨⟨⟨_, h1⟩, _, _, _, h2, _, h3, _, h4⟩, _⟩ := h
 exact ⟨by omega, by omega, by omega, by omega⟩
theorem zHp {ns : List ByteArray} {us : List Nat} {sp : Sp} (hm : zCs ns us sp = 0) : zAA ns us = 0 ∧ SpOk sp := by
 unfold zCs at hm
 split at hm
 ·rename_i hc
  split at hm
  ·rename_i hsp; exact ⟨hc, zHs.1 hsp⟩
  ·cases hm
 ·rename_i hc; exact absurd hm hc
theorem zOU {n : Nat} {sp : Sp} (hsp : SpOk sp) (d : Dr) : (∃ e, e ≠ 0 ∧ (zGe n sp).run d = .error e) ∨ ∃ d' s cs, (zGe n sp).run d = .ok (d', s) ∧ zDx n sp s = true ∧ (zGe n sp).path cs = some s ∧ d'.l = d.l ∧ d'.g = d.g ++ cs ∧ cs.length ≤ 89 := by
 have hi := (zQs n sp).1 d 0
 cases hr : (zGe n sp).run d with
 | error e => rw [hr] at hi; exact .inl ⟨e, hi.1, rfl⟩
 | ok r =>
  obtain ⟨d', s⟩ := r
  obtain ⟨cs, h1, h2, h3⟩ := Cp.run_path _ hr
  exact .inr ⟨d', s, cs, rfl, Cp.all_path _ (zLz hsp) h1, h1, h3, h2, Cp.path_deep _ (zJY hsp) h1⟩
theorem zNW {ns : List ByteArray} {us : List Nat} {sp : Sp} {d : Dr} (hl : d.l.length ≤ 1000) (hg : d.g.length ≤ 3000) : Sml15 (zCa ns us sp d).2.1 ∧ (zCa ns us sp d).1.l.length ≤ 4000 ∧ (zCa ns us sp d).1.g.length ≤ 4000 := by
 have z : Sml15 Sta.z := ⟨by decide, by decide, by decide, by decide⟩
 have zz : Sml15 Sta.z ∧ Dr.z.l.length ≤ 4000 ∧ Dr.z.g.length ≤ 4000 := ⟨z, by decide, by decide⟩
 unfold zCa
 split
 ·rename_i hm
  split
  ·rcases zOU (zHp hm).2 (n := us.length) d with ⟨e, _, hr⟩ | ⟨d', s, cs, hr, hb, _, h1, h2, h3⟩
   ·rw [hr]; exact zz
   ·rw [hr]
    refine ⟨zRz hb, ?_, ?_⟩
    ·show d'.l.length ≤ 4000; rw [h1]; omega
    ·show d'.g.length ≤ 4000; rw [h2, List.length_append]; omega
  ·exact zz
 ·exact zz
def zTo (sp : Sp) : Sp := { sp with ws := sp.ws.take 16 }
theorem zQS {α : Type} (c : Cp α) {d d' : Dr} {x : α} (h : c.run d = .ok (d', x)) (hr : zAn d.l d.g d.a = true) : zAn d'.l d'.g d'.a = true := by
 induction c generalizing d with
 | ret z => simp only [Cp.run, Except.ok.injEq, Prod.mk.injEq] at h; obtain ⟨rfl, rfl⟩ := h; exact hr
 | bad e => simp [Cp.run] at h
 | take b k ih =>
  simp only [Cp.run] at h
  split at h
  ·rename_i h0
   obtain ⟨h1, h2, h3, h4, h5, h6, h7⟩ := Cp.takeF_ok h0
   refine ih _ h ?_
   rw [h6]
   simp only [zAn, Bool.and_eq_true, decide_eq_true_eq, List.length_append, List.length_cons, List.length_nil] at hr ⊢
   split <;> omega
  ·cases h
theorem zSa (sp : Sp) (us : List Nat) (o : Nat) (x : Int × Int × Int) : Cp.Deep 1 (vIC sp us o x) := by
 unfold vIC; split
 ·exact Cp.deep_bind (n := 1) (m := 0) _ _ (zEL _) (Cp.all_true _) fun v _ => trivial
 ·exact zEu _ _
theorem zSN (sp : Sp) (us : List Nat) (o : Nat) (x : Int × Int) : Cp.Deep 1 (vAC sp us o x) := by
 unfold vAC; split
 ·exact Cp.deep_bind (n := 1) (m := 0) _ _ (zEL _) (Cp.all_true _) fun v _ => trivial
 ·exact zEu _ _
theorem zOw (sp : Sp) (r : Bool) : Cp.Deep 1 (vVC sp r) := by
 unfold vVC; split
 ·exact zBK _
 ·exact zEL _
theorem zOi (sp : Sp) (us : List Nat) (o : Nat) (x : Bool × Int × Int) : Cp.Deep 1 (vSC sp us o x) := by
 unfold vSC; split
 ·exact Cp.deep_bind (n := 1) (m := 0) _ _ (zOw _ _) (Cp.all_true _) fun v _ => trivial
 ·exact zEu _ _
theorem zTg (sp : Sp) (us : List Nat) (o : Nat) : Cp.Deep 3 (v1C sp us o) :=
 Cp.deep_bind (n := 1) (m := 2) _ _ (zBK _) (Cp.all_true _) fun r _ => Cp.deep_bind (n := 1) (m := 1) _ _ (zBK _) (Cp.all_true _) fun l _ => Cp.deep_bind (n := 1) (m := 0) _ _ (zOw _ _) (Cp.all_true _) fun v _ => trivial
theorem zPS {sp : Sp} (h : SpOk sp) (us : List Nat) (o : Nat) (k : List (Bool × Int × Int)) : Cp.Deep 37 (zMh sp us o k) := by
 have h1 := h.s1
 unfold zMh zCR
 intro j h0 h2
 show Cp.Deep 36 (((v1C sp us o).times j.toNat).bind fun t => .ret (k ++ t))
 exact Cp.deep_mono _ (Cp.deep_bind (n := j.toNat * 3) (m := 0) _ _ (Cp.deep_times (zTg sp us o) j.toNat) (Cp.all_true _) fun t _ => trivial) (by omega)
theorem zQa {sp : Sp} (h : SpOk sp) {us : List Nat} {o : Nat} {s : Sta} (hs : InSp us.length sp s) : Cp.Deep 69 (zEg sp us o s) := by
 have c1 := h.c1
 have m1 := h.m1
 have s1 := h.s1
 have c2 := hs.cl
 have m2 := hs.ml
 have s2 := hs.sl
 have s3 : (zu us o s.stack).length ≤ s.stack.length := by unfold zu; rw [List.length_take]; omega
 refine Cp.deep_bind (n := 12) (m := 57) _ _ (Cp.deep_mono _ (Cp.deep_map (zSa sp us o) _) (by omega)) (Cp.all_true _) fun c _ => Cp.deep_bind (n := 6) (m := 51) _ _ (Cp.deep_mono _ (Cp.deep_map (zSN sp us o) _) (by omega)) (Cp.all_true _) fun m _ => ?_
 split
 ·exact Cp.deep_bind (n := 12) (m := 39) _ _ (Cp.deep_mono _ (Cp.deep_map (zOi sp us o) _) (by omega)) (Cp.all_true _) fun k _ => Cp.deep_bind (n := 37) (m := 2) _ _ (zPS h us o k) (Cp.all_true _) fun t _ =>
   Cp.deep_bind (n := 1) (m := 1) _ _ (zBK _) (Cp.all_true _) fun v _ => Cp.deep_bind (n := 1) (m := 0) _ _ (zBK _) (Cp.all_true _) fun n _ => trivial
 ·exact Cp.deep_mono _ (Cp.deep_bind (n := 12) (m := 0) _ _ (Cp.deep_mono _ (Cp.deep_map (zOi sp us o) _) (by omega)) (Cp.all_true _) fun k _ => trivial) (by omega)
def zKh (sp : Sp) (us : List Nat) (o : Nat) : Cp (Sta × Sta) := (zGe us.length sp).bind fun a => (zEg sp us o a).bind fun b => .ret (a, b)
theorem zQJ {sp : Sp} (h : SpOk sp) (us : List Nat) (o : Nat) : Cp.Deep 158 (zKh sp us o) :=
 Cp.deep_bind (n := 89) (m := 69) _ _ (zJY h) (zLz h) fun a ha => Cp.deep_bind (n := 69) (m := 0) _ _ (zQa h ((zFD h).1 ha)) (Cp.all_true _) fun b _ => trivial
theorem zTF (sp : Sp) (us : List Nat) (o : Nat) (s : Sta) (d : Dr) {e : Int} (h : (zEg sp us o s).run d = .error e) : e ≠ 0 := by
 have hi := (zLq ⟨true, true, [], us, sp, o⟩ s).1 d 0
 simp only [h] at hi
 exact hi.1
def zTw (r : Except Int (Dr × Sta × Sta)) : Dr × Sta × Sta × Int := match r with | .ok (d, a, b) => (d, a, b, 0) | .error e => (Dr.z, Sta.z, Sta.z, e)
theorem zQI {ns : List ByteArray} {us : List Nat} {sp : Sp} {o : Nat} (hm : zCs ns us sp = 0) (ho : zx us.length (o : Int) = false) {l : List Int} (hl : l.length ≤ 500) :
  zHb ns us sp (o : Int) ⟨l, 0, []⟩ = zTw ((zKh sp us o).run ⟨l, 0, []⟩) := by
 have hr : zAn l [] 0 = true := by simp [zAn]; omega
 have hsp := (zHp hm).2
 have hg : zCa ns us sp ⟨l, 0, []⟩ = zQA Sta.z ((zGe us.length sp).run ⟨l, 0, []⟩) := by unfold zCa; rw [if_pos hm, if_pos hr]
 unfold zHb zKh
 rw [Cp.run_bind]
 rcases zOU hsp (n := us.length) ⟨l, 0, []⟩ with ⟨e, he, h1⟩ | ⟨d', s, cs, h1, hb, _⟩
 ·have hg2 : zCa ns us sp ⟨l, 0, []⟩ = (Dr.z, Sta.z, e) := by rw [hg, h1]; rfl
  rw [hg2, h1]
  exact if_neg he
 ·have hg2 : zCa ns us sp ⟨l, 0, []⟩ = (d', s, 0) := by rw [hg, h1]; rfl
  rw [hg2, h1]
  have hr2 := zQS _ h1 hr
  have hv : zDB ns us sp (o : Int) s d' = zQA Sta.z ((zEg sp us o s).run d') := by
   unfold zDB; rw [if_pos hm, if_pos hb, if_pos ho, if_pos hr2, Int.toNat_natCast]
  refine (if_pos rfl).trans ?_
  show (if (zDB ns us sp (o : Int) s d').2.2 = 0 then ((zDB ns us sp (o : Int) s d').1, s, (zDB ns us sp (o : Int) s d').2.1, 0) else (Dr.z, Sta.z, Sta.z, (zDB ns us sp (o : Int) s d').2.2)) = zTw (((zEg sp us o s).bind fun b => Cp.ret (s, b)).run d')
  rw [Cp.run_bind]
  cases hq : (zEg sp us o s).run d' with
  | error e =>
   have hv2 : zDB ns us sp (o : Int) s d' = (Dr.z, Sta.z, e) := by rw [hv, hq]; rfl
   rw [hv2]
   exact if_neg (zTF _ _ _ _ _ hq)
  | ok y =>
   have hv2 : zDB ns us sp (o : Int) s d' = (y.1, y.2, 0) := by rw [hv, hq]; rfl
   rw [hv2]
   exact if_pos rfl
theorem zQd (f : Bool) (ws : List Int) (i : Int) (hb : ws.length ≤ 9223372036854775807) : Fn Tryz.prog 257 [.sl f 1 (zM ws), .v (.int .i64 i)] [] (.tup [.v (.int .i64 (zFl ws i).1), .v (.int .i64 (zFl ws i).2)]) [] := by
 refine Fn.of (fn := Tryz.f257) (by kernel_rfl) rfl (by kernel_rfl) ⟨[.sl f 1 (zM ws), .v (.int .i64 i), .v undef, .v undef, .v undef, .v undef, .v undef, .v undef, .v undef, .v undef, .v undef, .v undef, .v undef, .v undef, .v undef, .v undef, .v undef, .v undef, .v undef, .v undef, .v undef, .v undef, .v undef, .v undef, .v undef, .v undef, .v undef, .v undef, .v undef, .v undef, .v undef, .v undef, .v undef, .v undef, .v undef, .v undef, .v undef, .v undef, .v undef, .v undef, .v undef], []⟩ rfl ?_
 by_cases hw : zAf ws = true
 ·obtain ⟨h1, h2, h3, h4⟩ := zDE hw
  have hs : zFl ws i = if i < 0 ∨ ws.length ≤ i ∨ ws.getD i.toNat 0 = 0 then (0, 9) else ((ws.take i.toNat).sum, 0) := if_neg (by simp [hw])
  rw [hs]
  by_cases hi0 : i < 0
  ·skip
   repeat' first | (with_reducible first | refine zA ?_ | refine zB ?_ | refine zb ?_ | refine zAC ?_ | refine zF ?_ | refine zI ?_) | ((first | with_reducible refine zC fun KC J hJ hKC => ?_ | (refine' hKC _ _ _ _ _ (zD (zCJ _ _ ?_) rfl rfl rfl ?_ ?_); (rotate_left 3); (· exact Lq); (rotate_left 1); (iterate 1 (· exact Hq)))); simp (maxSteps := 9999999) only [push_cast, seval, ↓reduceIte, hw, hi0]) | ((with_reducible refine hJ _ _ ?_); clear hJ hKC KC J) | ((with_reducible refine zG ?_ ?_); · rfl) | ((with_reducible refine zH ?_ ?_); · rfl)
   refine zE ?_
   simp (maxSteps := 9999999) only [push_cast, seval, ↓reduceIte, show Tryz.f257.results = #[(.cell 4 3), (.cell 5 40)] from rfl]
   rw [if_pos (.inl hi0)]
   exact Lq
  by_cases hi1 : (ws.length : Int) ≤ i
  ·skip
   repeat' first | (with_reducible first | refine zA ?_ | refine zB ?_ | refine zb ?_ | refine zAC ?_ | refine zF ?_ | refine zI ?_) | ((first | with_reducible refine zC fun KC J hJ hKC => ?_ | (refine' hKC _ _ _ _ _ (zD (zCJ _ _ ?_) rfl rfl rfl ?_ ?_); (rotate_left 3); (· exact Lq); (rotate_left 1); (iterate 1 (· exact Hq)))); simp (maxSteps := 9999999) only [push_cast, seval, ↓reduceIte, hw, hi0, hi1]) | ((with_reducible refine hJ _ _ ?_); clear hJ hKC KC J) | ((with_reducible refine zG ?_ ?_); · rfl) | ((with_reducible refine zH ?_ ?_); · rfl)
   refine zE ?_
   simp (maxSteps := 9999999) only [push_cast, seval, ↓reduceIte, show Tryz.f257.results = #[(.cell 4 3), (.cell 5 40)] from rfl]
   rw [if_pos (.inr (.inl hi1))]
   exact Lq
  have hx : ws[i.toNat]? = some (ws.getD i.toNat 0) := by rw [List.getD_eq_getElem?_getD, List.getElem?_eq_getElem (by omega)]; rfl
  by_cases hi2 : ws.getD i.toNat 0 = 0
  ·have hx' := hx
   rw [hi2] at hx'
   repeat' first | (with_reducible first | refine zA ?_ | refine zB ?_ | refine zb ?_ | refine zAC ?_ | refine zF ?_ | refine zI ?_) | ((with_reducible refine And.intro ?_ ?_); · exact Sq) | ((first | with_reducible refine zC fun KC J hJ hKC => ?_ | (refine' hKC _ _ _ _ _ (zD (zCJ _ _ ?_) rfl rfl rfl ?_ ?_); (rotate_left 3); (· exact Lq); (rotate_left 1); (iterate 1 (· exact Hq)))); simp (maxSteps := 9999999) only [push_cast, seval, ↓reduceIte, hw, hi0, hi1, zAV hx']) | ((with_reducible refine hJ _ _ ?_); clear hJ hKC KC J) | ((with_reducible refine zG ?_ ?_); · rfl) | ((with_reducible refine zH ?_ ?_); · rfl)
   refine zE ?_
   simp (maxSteps := 9999999) only [push_cast, seval, ↓reduceIte, show Tryz.f257.results = #[(.cell 4 3), (.cell 5 40)] from rfl]
   rw [if_pos (.inr (.inr hi2))]
   exact Lq
  have hi2' : (ws.getD i.toNat 0 == 0) = false := by simpa using hi2
  rw [if_neg (by omega)]
  repeat' first | (with_reducible first | refine zA ?_ | refine zB ?_ | refine zP ?_ | refine zJ ?_ | refine zI ?_) | ((with_reducible refine And.intro ?_ ?_); · exact Sq) | ((first | with_reducible refine zC fun KC J hJ hKC => ?_ | (refine' hKC _ _ _ _ _ (zD (zCJ _ _ ?_) rfl rfl rfl ?_ ?_); (rotate_left 3); (· exact Lq); (rotate_left 1); (iterate 1 (· exact Hq))) | (refine' hKC _ _ _ _ _ (zD (zLE _ _) rfl rfl rfl ?_ ?_); (rotate_left 2); (· exact Lq))); simp (maxSteps := 9999999) only [push_cast, seval, ↓reduceIte, hw, hi0, hi1, zAV hx, hi2']) | ((with_reducible refine hJ _ _ ?_); clear hJ hKC KC J) | ((with_reducible refine zH ?_ ?_); · rfl)
  refine zKo ([.sl f 1 (zM ws), .v (.int .i64 i), .ptr 0 0 0, .ptr 1 0 0, .ptr 2 0 0, .ptr 3 0 0, .any, .any, .any, .any, .any, .any, .any, .any, .any, .any, .any, .any, .any, .any, .any, .any, .any, .any, .any, .any, .any, .any, .any, .fn 297 [.fad [.sl f 1 (zM ws)]], .any, .any, .any, .any, .any, .any, .any, .any, .any, .any, .any]) (by exact Lq) ?_
  refine zEc (f := 297) rfl rfl (zKu f ws h3 (by omega)) (fun i hi => rfl) 6 rfl rfl
   (fun _ => [.ent ⟨0, none, 26, [.sl f 1 (zM ws)], .cells⟩, .ent ⟨0, none, 3, [.v (.int .i64 i)], .cells⟩, .ent ⟨0, none, 3, [.v (.int .i64 0)], .cells⟩, .ent ⟨0, none, 40, [.v (.int .i64 0)], .cells⟩, .free, .free]) (fun _ => [.ent ⟨0, none, 26, [.sl f 1 (zM ws)], .cells⟩, .ent ⟨0, none, 3, [.v (.int .i64 i)], .cells⟩, .ent ⟨0, none, 3, [.v (.int .i64 (ws.take i.toNat).sum)], .cells⟩, .ent ⟨0, none, 40, [.v (.int .i64 0)], .cells⟩, .free, .free])
   rfl (fun i => ⟨rfl, rfl⟩) (fun i => ⟨rfl, rfl⟩) (fun i => ⟨rfl, rfl⟩) (fun k => decide (¬ (k : Int) = i)) .ret .ret rfl
   (fun k => [.sl f 1 (zM ws), .v (.int .i64 i), .ptr 0 0 0, .ptr 1 0 0, .ptr 2 0 0, .ptr 3 0 0, .v (.int .i64 (k : Int)), .v (.int .i64 (ws.take (k + 1)).sum), .any, .any, .any, .any, .any, .any, .any, .any, .any, .any, .any, .any, .any, .any, .any, .any, .any, .any, .any, .any, .any, .fn 297 [.fad [.sl f 1 (zM ws)]], .v (.int .i64 (k : Int)), .v (.int .i64 (ws.take (k + 1)).sum), .any, .any, .any, .any, .any, .any, .any, .any, .any])
   (fun l' k r σ hk => ?_) (fun i => rfl) (fun l' k hk hb' => ?_) (fun hall => ?_) (fun k hk hkf hkb => ?_)
  ·skip
   repeat' first | (with_reducible first | refine zA ?_ | refine zB ?_) | ((with_reducible refine And.intro ?_ ?_); · exact Sq) | ((with_reducible refine zC fun KC J hJ hKC => ?_); simp (maxSteps := 9999999) only [push_cast, seval, ↓reduceIte]) | ((with_reducible refine hJ _ _ ?_); clear hJ hKC KC J)
   exact rfl
  ·by_cases hki : (k : Int) = i
   ·have hk' : i.toNat = k := by omega
    have htk := zCE hk
    have hxk : ws.getD i.toNat 0 = ws[k] := by rw [hk']; simp [hk]
    have hbk := zDq h3 (k + 1)
    have hwk := h3 ws[k] (List.getElem_mem _)
    have hsub : IntKind.i64.wrap ((ws.take (k + 1)).sum - ws.getD i.toNat 0) = (ws.take i.toNat).sum := by rw [hxk, hk', zBk (by omega) (by omega)]; omega
    have hki' : ((k : Int) == i) = true := by simpa using hki
    repeat' first | (with_reducible first | refine zA ?_ | refine zB ?_ | refine zAC ?_ | refine zF ?_ | refine zI ?_) | ((with_reducible refine And.intro ?_ ?_); · exact Sq) | ((with_reducible refine zC fun KC J hJ hKC => ?_); simp (maxSteps := 9999999) only [push_cast, seval, ↓reduceIte, hki', zAV hx, hsub]) | ((with_reducible refine hJ _ _ ?_); clear hJ hKC KC J) | ((with_reducible refine zG ?_ ?_); · rfl)
    exact .inr ⟨by simp [hki], rfl, zO (k := 0) rfl rfl rfl⟩
   ·have hki' : ((k : Int) == i) = false := by simpa using hki
    repeat' first | (with_reducible first | refine zA ?_ | refine zB ?_ | refine zP ?_ | refine zJ ?_ | refine zI ?_) | ((with_reducible refine zC fun KC J hJ hKC => ?_); simp (maxSteps := 9999999) only [push_cast, seval, ↓reduceIte, hki']) | ((with_reducible refine hJ _ _ ?_); clear hJ hKC KC J) | ((with_reducible refine zH ?_ ?_); · rfl)
    exact .inl ⟨by simp [hki], rfl, zO (k := 0) rfl rfl rfl⟩
  ·have := hall i.toNat (by omega)
   simp at this
   omega
  ·skip
   repeat' first | (with_reducible first | refine zb ?_ | refine zAC ?_)
   refine zE ?_
   simp (maxSteps := 9999999) only [push_cast, seval, ↓reduceIte, show Tryz.f257.results = #[(.cell 4 3), (.cell 5 40)] from rfl]
   exact Lq
 ·have hw' : zAf ws = false := by simpa using hw
  repeat' first | (with_reducible first | refine zA ?_ | refine zB ?_ | refine zb ?_ | refine zAC ?_ | refine zF ?_ | refine zI ?_) | ((first | with_reducible refine zC fun KC J hJ hKC => ?_ | (refine' hKC _ _ _ _ _ (zD (zCJ _ _ ?_) rfl rfl rfl ?_ ?_); (rotate_left 3); (· exact Lq); (rotate_left 1); (iterate 1 (· exact Hq)))); simp (maxSteps := 9999999) only [push_cast, seval, ↓reduceIte, hw']) | ((with_reducible refine hJ _ _ ?_); clear hJ hKC KC J) | ((with_reducible refine zG ?_ ?_); · rfl)
  refine zE ?_
  simp (maxSteps := 9999999) only [push_cast, seval, ↓reduceIte, show Tryz.f257.results = #[(.cell 4 3), (.cell 5 40)] from rfl]
  rw [show zFl ws i = (0, 1) from if_pos hw']
  exact Lq
def zCS (sp : Sp) (v : Int) : Int := (zCQ sp.val v).1
def opU (sp : Sp) (i : Int) : Int := (zFl sp.ws i).1
def zCH (sp : Sp) (x : Bool × Int × Int) : Int := if x.1 = true then x.2.1 else zCS sp x.2.1
def zIS (x : Bool × Int × Int) : Int := if x.1 = true then 1 else 0
def zDW (sp : Sp) (x : Int × Int × Int) : List Int := if x.1 = 1 then [opU sp 1, zCS sp x.2.1, x.2.2] else if x.1 = 8 ∨ x.1 = 9 ∨ x.1 = 10 then [opU sp x.1, x.2.1] else [opU sp x.1]
def zCx (sp : Sp) (x : Int × Int) : List Int := [zCS sp x.1, x.2]
def zDG (sp : Sp) (x : Bool × Int × Int) : List Int := [zIS x, zCH sp x, x.2.2]
def zAm (sp : Sp) (s : Sta) : List Int :=
 ((s.code.length : Int) :: s.code.flatMap (zDW sp)) ++ (((s.mem.length : Int) :: s.mem.flatMap (zCx sp)) ++ (((s.stack.length : Int) :: s.stack.flatMap (zDG sp)) ++ [s.v, s.l]))
def vIL (sp : Sp) (us : List Nat) (o : Nat) (x : Int × Int × Int) : List Int := if x.1 = 1 ∧ hid us o x.2.2 = true then [zCS sp x.2.1] else []
def vAL (sp : Sp) (us : List Nat) (o : Nat) (x : Int × Int) : List Int := if hid us o x.2 = true then [zCS sp x.1] else []
def vSL (sp : Sp) (us : List Nat) (o : Nat) (x : Bool × Int × Int) : List Int := if hid us o x.2.2 = true then [zCH sp x] else []
def zCe (sp : Sp) (x : Bool × Int × Int) : List Int := [zIS x, x.2.2, zCH sp x]
def zEl (us : List Nat) (o : Nat) (l : Int) : Nat := (((List.range l.toNat).map (fun a : Nat => (a : Int))).filter (hid us o)).length
def zAg (sp : Sp) (us : List Nat) (o : Nat) (a b : Sta) : List Int :=
 b.code.flatMap (vIL sp us o) ++ (b.mem.flatMap (vAL sp us o) ++
  if hid us o a.l = true then (zu us o b.stack).flatMap (vSL sp us o) ++ (((b.stack.length : Int) - ((zu us o b.stack).length : Int)) :: (b.stack.drop (zu us o b.stack).length).flatMap (zCe sp) ++ [b.v, (zEl us o b.l : Int)])
  else b.stack.flatMap (vSL sp us o))
theorem zAq {x b : Int} (h0 : 0 ≤ x) (h1 : x < b) : (zCR b).path [x] = some x := by
 unfold zCR
 simp only [Cp.path]
 rw [if_pos ⟨h0, h1⟩]
theorem zFH {sp : Sp} (h : SpOk sp) {v : Int} (h0 : -sp.val ≤ v) (h1 : v ≤ sp.val) : (zFp sp.val).path [zCS sp v] = some v := by
 have v0 := h.v0
 have v1 := h.v1
 unfold zFp zCS zCQ
 rw [if_neg (by omega), if_neg (by omega), if_neg (by omega)]
 by_cases hp : 0 < v
 ·rw [if_pos hp]
  simp only [Cp.path]
  rw [if_pos (by omega)]
  unfold zFc
  rw [if_pos (by omega)]
  congr 1
  omega
 ·rw [if_neg hp]
  simp only [Cp.path]
  rw [if_pos (by omega)]
  unfold zFc
  rw [if_neg (by omega)]
  congr 1
  omega
theorem zOv {sp : Sp} (h : SpOk sp) {i : Int} (h0 : 0 ≤ i) (h1 : i ≤ 12) (h2 : sp.ws.getD i.toNat 0 ≠ 0) : (opC sp.ws).path [opU sp i] = some i := by
 have hw := h.ww
 have hl := h.wl
 obtain ⟨a1, a2, h3, a4⟩ := zDE hw
 have hk : i.toNat < sp.ws.length := by omega
 have hx : sp.ws.getD i.toNat 0 = sp.ws[i.toNat] := by simp [hk]
 have hwk := h3 sp.ws[i.toNat] (List.getElem_mem _)
 have htk := zCE hk
 have hk0 := zDq h3 i.toNat
 have hm := zGC h3 (show i.toNat + 1 ≤ sp.ws.length by omega)
 rw [List.take_length] at hm
 have hpos : 0 < sp.ws[i.toNat] := by rw [hx] at h2; omega
 have hi : ¬ (i < 0 ∨ (sp.ws.length : Int) ≤ i ∨ sp.ws.getD i.toNat 0 = 0) := by
  rintro (h | h | h)
  ·omega
  ·omega
  ·exact h2 h
 unfold opC opU zFl
 rw [if_neg (by simp [hw]), if_neg (by simp [hw]), if_neg hi]
 simp only [Cp.path]
 rw [if_pos (by omega), (zKa (i := i) h3 hk0.1 (by omega)).2 ⟨i.toNat, hk, by omega, Int.le_refl _, by omega⟩]
theorem zON {n : Nat} {sp : Sp} (h : SpOk sp) {x : Int × Int × Int} (h1 : zBR n x = true) (h2 : zBS sp x = true) : (zHE n sp).path (zDW sp x) = some x := by
 obtain ⟨o, v, l⟩ := x
 simp only [zBS, Bool.and_eq_true, Bool.not_eq_true', decide_eq_false_iff_not, Bool.or_eq_true] at h2
 obtain ⟨h2, h3⟩ := h2
 unfold zHE zDW
 by_cases e1 : o = 1
 ·subst e1
  simp only [zBR, if_true, Bool.and_eq_true, zAb, Bool.not_eq_true', zAG] at h1
  have h4 := zAb.1 (h3.resolve_left (by simp))
  rw [if_pos rfl]
  have p1 := zOv h (i := 1) (by omega) (by omega) h2
  have p2 := zFH h h4.1 h4.2
  have p3 := zAq h1.2.1 h1.2.2
  exact Cp.path_bind (cs := [opU sp 1]) (ds := [zCS sp v, l]) _ _ p1 (Cp.path_bind (cs := [zCS sp v]) (ds := [l]) _ _ (by unfold nC; rw [if_pos rfl]; exact p2) (Cp.path_bind (cs := [l]) (ds := []) _ _ (by rw [if_pos rfl]; exact p3) rfl))
 ·unfold zBR at h1
  rw [if_neg e1] at h1
  simp only [Bool.and_eq_true, zAb, decide_eq_true_eq] at h1
  obtain ⟨ho, rfl, hv⟩ := h1
  have p1 := zOv h ho.1 ho.2 h2
  rw [if_neg e1]
  by_cases e8 : o = 8
  ·subst e8
   rw [if_pos rfl, zAb] at hv
   rw [if_pos (.inl rfl)]
   exact Cp.path_bind (cs := [opU sp 8]) (ds := [v]) _ _ p1 (Cp.path_bind (cs := [v]) (ds := []) _ _ (by unfold nC; rw [if_neg e1, if_pos rfl]; exact zAq (by omega) (by omega)) rfl)
  rw [if_neg e8] at hv
  by_cases e9 : o = 9
  ·subst e9
   rw [if_pos rfl, zAb] at hv
   rw [if_pos (.inr (.inl rfl))]
   exact Cp.path_bind (cs := [opU sp 9]) (ds := [v]) _ _ p1 (Cp.path_bind (cs := [v]) (ds := []) _ _ (by unfold nC; rw [if_neg e1, if_neg e8, if_pos rfl]; exact zAq (by omega) (by omega)) rfl)
  rw [if_neg e9] at hv
  by_cases e10 : o = 10
  ·subst e10
   rw [if_pos rfl, zAb] at hv
   rw [if_pos (.inr (.inr rfl))]
   exact Cp.path_bind (cs := [opU sp 10]) (ds := [v]) _ _ p1 (Cp.path_bind (cs := [v]) (ds := []) _ _ (by unfold nC; rw [if_neg e1, if_neg e8, if_neg e9, if_pos rfl]; exact zAq (by omega) (by omega)) rfl)
  rw [if_neg e10] at hv
  have hv : v = 0 := by simpa using hv
  subst hv
  rw [if_neg (by rintro (h | h | h) <;> omega)]
  exact Cp.path_bind (cs := [opU sp o]) (ds := []) _ _ p1 (Cp.path_bind (cs := []) (ds := []) (x := 0) _ _ (by unfold nC; rw [if_neg e1, if_neg e8, if_neg e9, if_neg e10]; rfl) (by rw [if_neg e1]; rfl))
theorem zQT {n : Nat} {sp : Sp} (h : SpOk sp) {x : Int × Int} (h1 : zCf n x = true) (h2 : inB (-sp.val) sp.val x.1 = true) : (zMG n sp).path (zCx sp x) = some x := by
 obtain ⟨v, l⟩ := x
 simp only [zCf, Bool.and_eq_true, Bool.not_eq_true', zAG] at h1
 rw [zAb] at h2
 exact Cp.path_bind (cs := [zCS sp v]) (ds := [l]) _ _ (zFH h h2.1 h2.2) (Cp.path_bind (cs := [l]) (ds := []) _ _ (zAq h1.2.1 h1.2.2) rfl)
theorem zJL {n : Nat} {sp : Sp} (h : SpOk sp) {x : Bool × Int × Int} (h1 : zCT n x = true) (h2 : (x.1 || inB (-sp.val) sp.val x.2.1) = true) : (vVC sp x.1).path [zCH sp x] = some x.2.1 := by
 obtain ⟨r, v, l⟩ := x
 unfold vVC zCH
 cases r
 ·simp only [Bool.false_or] at h2
  rw [zAb] at h2
  exact zFH h h2.1 h2.2
 ·simp only [zCT, if_true, Bool.and_eq_true, zAb] at h1
  show (zCR 13).path [v] = some v
  exact zAq (by omega) (by omega)
theorem zPh {n : Nat} {sp : Sp} (h : SpOk sp) {x : Bool × Int × Int} (h1 : zCT n x = true) (h2 : (x.1 || inB (-sp.val) sp.val x.2.1) = true) : (zMC n sp).path (zDG sp x) = some x := by
 have p2 := zJL h h1 h2
 obtain ⟨r, v, l⟩ := x
 simp only [zCT, Bool.and_eq_true, Bool.not_eq_true', zAG] at h1
 have p3 := zAq h1.1.1 h1.1.2
 unfold vVC at p2
 cases r
 ·exact Cp.path_bind (cs := [0]) (ds := [zCH sp (false, v, l), l]) (x := (0 : Int)) _ _ (zAq (by omega) (by omega)) (Cp.path_bind (cs := [zCH sp (false, v, l)]) (ds := [l]) _ _ p2 (Cp.path_bind (cs := [l]) (ds := []) _ _ p3 rfl))
 ·exact Cp.path_bind (cs := [1]) (ds := [zCH sp (true, v, l), l]) (x := (1 : Int)) _ _ (zAq (by omega) (by omega)) (Cp.path_bind (cs := [zCH sp (true, v, l)]) (ds := [l]) _ _ p2 (Cp.path_bind (cs := [l]) (ds := []) _ _ p3 rfl))
theorem zFj {α : Type} {c : Cp α} {f : α → List Int} : ∀ (n : Nat) (l : List α), l.length = n → (∀ x ∈ l, c.path (f x) = some x) → (c.times n).path (l.flatMap f) = some l
 | 0, l, hl, _ => by rw [List.length_eq_zero_iff.1 hl]; rfl
 | n + 1, l, hl, h => by
  have hne : l ≠ [] := fun h => by rw [h] at hl; cases hl
  have he := List.dropLast_concat_getLast hne
  have ih := zFj (c := c) (f := f) n l.dropLast (by rw [List.length_dropLast]; omega) fun x hx => h x (List.dropLast_subset l hx)
  have hx := h _ (List.getLast_mem hne)
  rw [← he, List.flatMap_append, List.flatMap_cons, List.flatMap_nil]
  exact Cp.path_bind _ _ ih (Cp.path_bind _ _ hx rfl)
theorem zGz {α : Type} {c : Cp α} {f : α → List Int} {l : List α} {most : Int} (hm : (l.length : Int) ≤ most) (h : ∀ x ∈ l, c.path (f x) = some x) : (c.rows most).path ((l.length : Int) :: l.flatMap f) = some l := by
 unfold Cp.rows
 simp only [Cp.path]
 rw [if_pos (by omega), Int.toNat_natCast]
 exact zFj _ l rfl h
theorem zMv {n : Nat} {sp : Sp} (h : SpOk sp) {s : Sta} (hs : InSp n sp s) : (zGe n sp).path (zAm sp s) = some s := by
 obtain ⟨l0, l1⟩ := zAG.1 hs.l
 have hv := hs.v
 have p1 := zGz (f := zDW sp) hs.cl fun x hx => zON h (hs.c x hx).1 (hs.c x hx).2
 have p2 := zGz (f := zCx sp) hs.ml fun x hx => zQT h (hs.m x hx).1 (hs.m x hx).2
 have p3 := zGz (f := zDG sp) hs.sl fun x hx => zPh h (hs.s x hx).1 (hs.s x hx).2
 have p4 := zAq hv.1 (show s.v < 13 by omega)
 have p5 := zAq l0 l1
 have ho := hs.out
 obtain ⟨v, l, code, mem, stack, out⟩ := s
 simp only at ho p1 p2 p3 p4 p5
 subst ho
 exact Cp.path_bind _ _ p1 (Cp.path_bind _ _ p2 (Cp.path_bind _ _ p3 (Cp.path_bind (cs := [v]) (ds := [l]) _ _ p4 (Cp.path_bind (cs := [l]) (ds := []) _ _ p5 rfl))))
theorem zEz {α : Type} {f : α → Cp α} {g : α → List Int} {p : α → α → Prop} (h : ∀ x y, p x y → (f x).path (g y) = some y) : ∀ {xs ys : List α}, Cp.Each p xs ys → (Cp.map f xs).path (ys.flatMap g) = some ys
 | [], [], _ => rfl
 | x :: xs, y :: ys, hh => by
  rw [List.flatMap_cons]
  have := Cp.path_bind (f x) (fun y => (Cp.map f xs).bind fun ys => .ret (y :: ys)) (h x y hh.1) (Cp.path_bind (ds := []) (Cp.map f xs) (fun ys => .ret (y :: ys)) (zEz h hh.2) rfl)
  rwa [List.append_nil] at this
theorem zDc {α : Type} {p : α → α → Prop} {q : α → Prop} : ∀ {xs ys : List α}, Cp.Each p xs ys → (∀ y ∈ ys, q y) → Cp.Each (fun x y => p x y ∧ q y) xs ys
 | [], [], _, _ => trivial
 | _ :: _, y :: _, h, k => ⟨⟨h.1, k y List.mem_cons_self⟩, zDc h.2 fun z hz => k z (List.mem_cons_of_mem _ hz)⟩
theorem zJh {q : Int × Int × Int → Int × Int × Int → Bool} : ∀ {xs ys}, zCW q xs ys = true → Cp.Each (fun x y => q x y = true) xs ys
 | [], [], _ => trivial
 | [], _ :: _, h => by cases h
 | _ :: _, [], h => by cases h
 | _ :: _, _ :: _, h => by simp only [zCW, Bool.and_eq_true] at h; exact ⟨h.1, zJh h.2⟩
theorem zJa {q : Int × Int → Int × Int → Bool} : ∀ {xs ys}, zCU q xs ys = true → Cp.Each (fun x y => q x y = true) xs ys
 | [], [], _ => trivial
 | [], _ :: _, h => by cases h
 | _ :: _, [], h => by cases h
 | _ :: _, _ :: _, h => by simp only [zCU, Bool.and_eq_true] at h; exact ⟨h.1, zJa h.2⟩
theorem zFy {q : Bool × Int × Int → Bool × Int × Int → Bool} : ∀ {xs ys}, zCZ q xs ys = true → Cp.Each (fun x y => q x y = true) xs ys
 | [], [], _ => trivial
 | [], _ :: _, h => by cases h
 | _ :: _, [], h => by cases h
 | _ :: _, _ :: _, h => by simp only [zCZ, Bool.and_eq_true] at h; exact ⟨h.1, zFy h.2⟩
theorem zSk {n : Nat} {sp : Sp} (h : SpOk sp) (us : List Nat) (o : Nat) {x y : Int × Int × Int} (ha : alI us o x y = true) (h2 : zBS sp y = true) : (vIC sp us o x).path (vIL sp us o y) = some y := by
 obtain ⟨a, b, c⟩ := x
 obtain ⟨a', b', c'⟩ := y
 simp only [alI, zMN, zOS, Bool.and_eq_true, Bool.or_eq_true, beq_iff_eq, Bool.not_eq_true'] at ha
 obtain ⟨⟨rfl, hb⟩, rfl, hs⟩ := ha
 unfold vIC vIL
 by_cases hh : a = 1 ∧ hid us o c = true
 ·rw [if_pos hh, if_pos hh]
  obtain ⟨rfl, hh⟩ := hh
  simp only [zBS, Bool.and_eq_true, Bool.not_eq_true', decide_eq_false_iff_not, Bool.or_eq_true] at h2
  have h4 := zAb.1 (h2.2.resolve_left (by simp))
  exact Cp.path_bind (cs := [zCS sp b']) (ds := []) _ _ (zFH h h4.1 h4.2) rfl
 ·rw [if_neg hh, if_neg hh]
  have : b = b' := by
   by_cases h1 : a = 1
   ·rcases hs with hs | hs
    ·exact absurd ⟨h1, by unfold hid; rw [hs]; rfl⟩ hh
    ·exact hs
   ·exact hb.resolve_left h1
  rw [this]
  rfl
theorem zSO {sp : Sp} (h : SpOk sp) (us : List Nat) (o : Nat) {x y : Int × Int} (ha : alA us o x y = true) (h2 : inB (-sp.val) sp.val y.1 = true) : (vAC sp us o x).path (vAL sp us o y) = some y := by
 obtain ⟨b, c⟩ := x
 obtain ⟨b', c'⟩ := y
 simp only [alA, zOs, zOR, Bool.and_eq_true, Bool.or_eq_true, beq_iff_eq, Bool.not_eq_true', true_and] at ha
 obtain ⟨rfl, hs⟩ := ha
 rw [zAb] at h2
 unfold vAC vAL
 by_cases hh : hid us o c = true
 ·rw [if_pos hh, if_pos hh]
  exact Cp.path_bind (cs := [zCS sp b']) (ds := []) _ _ (zFH h h2.1 h2.2) rfl
 ·rw [if_neg hh, if_neg hh]
  have : b = b' := by
   rcases hs with hs | hs
   ·exact absurd (by unfold hid; rw [hs]; rfl) hh
   ·exact hs
  rw [this]
  rfl
theorem zOn {n : Nat} {sp : Sp} (h : SpOk sp) (us : List Nat) (o : Nat) {x y : Bool × Int × Int} (ha : alS us o x y = true) (h1 : zCT n y = true) (h2 : (y.1 || inB (-sp.val) sp.val y.2.1) = true) : (vSC sp us o x).path (vSL sp us o y) = some y := by
 have hv := zJL h h1 h2
 obtain ⟨a, b, c⟩ := x
 obtain ⟨a', b', c'⟩ := y
 simp only [alS, zOy, zOt, Bool.and_eq_true, Bool.or_eq_true, beq_iff_eq, Bool.not_eq_true'] at ha
 obtain ⟨rfl, rfl, hs⟩ := ha
 unfold vSC vSL
 by_cases hh : hid us o c = true
 ·rw [if_pos hh, if_pos hh]
  exact Cp.path_bind (cs := [zCH sp (a, b', c)]) (ds := []) _ _ hv rfl
 ·rw [if_neg hh, if_neg hh]
  have : b = b' := by
   rcases hs with hs | hs
   ·exact absurd (by unfold hid; rw [hs]; rfl) hh
   ·exact hs
  rw [this]
  rfl
theorem zSP {us : List Nat} {o : Nat} {sp : Sp} (h : SpOk sp) {x : Bool × Int × Int} (h1 : zCT us.length x = true) (h2 : (x.1 || inB (-sp.val) sp.val x.2.1) = true) (h3 : zEt us o x = false) : (v1C sp us o).path (zCe sp x) = some x := by
 have p2 := zJL h h1 h2
 obtain ⟨r, v, l⟩ := x
 simp only [zCT, Bool.and_eq_true, Bool.not_eq_true', zAG] at h1
 have p3 := zAq h1.1.1 h1.1.2
 cases r
 ·exact Cp.path_bind (cs := [0]) (ds := [l, zCH sp (false, v, l)]) (x := (0 : Int)) _ _ (zAq (by omega) (by omega)) (Cp.path_bind (cs := [l]) (ds := [zCH sp (false, v, l)]) _ _ p3 (Cp.path_bind (cs := [zCH sp (false, v, l)]) (ds := []) _ _ p2 rfl))
 ·have hh : hid us o l = true := by simpa [zEt, hid] using h3
  have he : (decide ((1 : Int) = 1) && hid us o l) = true := by rw [hh]; rfl
  refine Cp.path_bind (cs := [1]) (ds := [l, zCH sp (true, v, l)]) (x := (1 : Int)) _ _ (zAq (by omega) (by omega)) (Cp.path_bind (cs := [l]) (ds := [zCH sp (true, v, l)]) _ _ p3 ?_)
  rw [he]
  exact Cp.path_bind (cs := [zCH sp (true, v, l)]) (ds := []) _ _ p2 rfl
theorem zJD {α : Type} (p : α → Bool) : ∀ (n : Nat) (l : List α), l.length = n → ∀ x ∈ l.drop (zEh p l), p x = false
 | 0, l, hl, x, hx => by rw [List.length_eq_zero_iff.1 hl] at hx; simp at hx
 | n + 1, l, hl, x, hx => by
  have hne : l ≠ [] := fun h => by rw [h] at hl; cases hl
  have he := List.dropLast_concat_getLast hne
  have hd : l.dropLast.length = n := by rw [List.length_dropLast]; omega
  have hk := zGf p l.dropLast
  rw [← he, zJN] at hx
  by_cases hp : p (l.getLast hne) = true
  ·rw [if_pos hp, List.drop_eq_nil_of_le (by rw [List.length_append]; simp)] at hx
   cases hx
  ·rw [if_neg hp, List.drop_append_of_le_length hk] at hx
   rcases List.mem_append.1 hx with hx | hx
   ·exact zJD p n l.dropLast hd x hx
   ·rw [List.mem_singleton.1 hx]; simpa using hp
theorem zQH {us : List Nat} {o : Nat} {l : Int} (h1 : zx us.length l = false) (h2 : hid us o l = true) : (zEl us o l : Int) < ((zh us o).length : Int) ∧ (zh us o).getD (zEl us o l) 0 = l := by
 obtain ⟨l, rfl, hl⟩ := zBU h1
 unfold zEl zh
 rw [Int.toNat_natCast]
 obtain ⟨k, hk⟩ : ∃ k, us.length = l + (k + 1) := ⟨us.length - l - 1, by omega⟩
 rw [hk, List.range_add, List.map_append, List.filter_append, List.range_succ_eq_map]
 simp only [List.map_cons, List.filter_cons, Nat.add_zero, h2, if_true, List.length_append, List.length_cons]
 refine ⟨by omega, ?_⟩
 rw [List.getD_eq_getElem?_getD, List.getElem?_append_right (Nat.le_refl _), Nat.sub_self]
 rfl
theorem zQW {sp : Sp} (h : SpOk sp) {us : List Nat} {o : Nat} {a b : Sta} (ha : InSp us.length sp a) (hb : InSp us.length sp b) (hs : zDN us o a b = true) : (zEg sp us o a).path (zAg sp us o a b) = some b := by
 unfold zDN at hs
 simp only [Bool.and_eq_true] at hs
 obtain ⟨e1, e2, _, e3⟩ := hs
 have q1 := zEz (f := vIC sp us o) (g := vIL sp us o) (fun x y hxy => zSk (n := us.length) h us o hxy.1 hxy.2) (zDc (zJh e1) fun y hy => (hb.c y hy).2)
 have q2 := zEz (f := vAC sp us o) (g := vAL sp us o) (fun x y hxy => zSO h us o hxy.1 hxy.2) (zDc (zJa e2) fun y hy => (hb.m y hy).2)
 have ob := hb.out
 have oa := ha.out
 obtain ⟨bl0, bl1⟩ := zAG.1 hb.l
 have hbv := hb.v
 have hbs := hb.sl
 unfold zEg zAg
 refine Cp.path_bind _ _ q1 (Cp.path_bind _ _ q2 ?_)
 cases hf : fl us a.l.toNat o
 ·rw [hf] at e3
  simp only [Bool.and_eq_true, Bool.not_eq_true'] at e3
  have hh : hid us o a.l = true := by unfold hid; rw [hf]; rfl
  have hh2 : hid us o b.l = true := by unfold hid; rw [e3.1]; rfl
  rw [if_pos hh, if_pos hh]
  have hcr : ∀ x ∈ zu us o b.stack, x ∈ b.stack := fun x hx => List.mem_of_mem_take hx
  have q3 := zEz (f := vSC sp us o) (g := vSL sp us o) (fun x y hxy => zOn (n := us.length) h us o hxy.1 hxy.2.1 hxy.2.2) (zDc (zFy e3.2) fun y hy => hb.s y (hcr y hy))
  have hcl : (zu us o b.stack).length = zEh (zEt us o) b.stack := by
   unfold zu; rw [List.length_take]; have := zGf (zEt us o) b.stack; omega
  have hkl := zGf (zEt us o) b.stack
  have hdl : (b.stack.drop (zu us o b.stack).length).length = b.stack.length - (zu us o b.stack).length := List.length_drop
  have hdr : zu us o b.stack ++ b.stack.drop (zu us o b.stack).length = b.stack := by
   rw [hcl]; unfold zu; exact List.take_append_drop _ _
  have q4 := zFj (c := v1C sp us o) (f := zCe sp) _ (b.stack.drop (zu us o b.stack).length) rfl fun x hx => by
   have hm := hb.s x (List.mem_of_mem_drop hx)
   rw [hcl] at hx
   exact zSP h hm.1 hm.2 (zJD _ _ _ rfl x hx)
  obtain ⟨k1, k2⟩ := zQH hb.l hh2
  refine Cp.path_bind _ _ q3 ?_
  refine Cp.path_bind (x := b.stack) (cs := ((b.stack.length : Int) - ((zu us o b.stack).length : Int)) :: (b.stack.drop (zu us o b.stack).length).flatMap (zCe sp)) (ds := [b.v, (zEl us o b.l : Int)]) _ _ ?_ ?_
  ·unfold zMh
   refine Cp.path_bind (cs := [(b.stack.length : Int) - ((zu us o b.stack).length : Int)]) _ _ (zAq (by omega) (by omega)) ?_
   rw [show ((b.stack.length : Int) - ((zu us o b.stack).length : Int)).toNat = (b.stack.drop (zu us o b.stack).length).length by omega]
   have := Cp.path_bind (ds := []) _ (fun t => Cp.ret (zu us o b.stack ++ t)) q4 rfl
   rw [List.append_nil, hdr] at this
   exact this
  ·refine Cp.path_bind (cs := [b.v]) (ds := [(zEl us o b.l : Int)]) _ _ (zAq hbv.1 (by omega)) (Cp.path_bind (cs := [(zEl us o b.l : Int)]) (ds := []) _ _ (zAq (by omega) k1) ?_)
   rw [Int.toNat_natCast, k2, oa, ← ob]
   rfl
 ·rw [hf] at e3
  simp only [Bool.and_eq_true, beq_iff_eq] at e3
  have hh : ¬ hid us o a.l = true := by unfold hid; rw [hf]; simp
  rw [if_neg hh, if_neg hh]
  have q3 := zEz (f := vSC sp us o) (g := vSL sp us o) (fun x y hxy => zOn (n := us.length) h us o hxy.1 hxy.2.1 hxy.2.2) (zDc (zFy e3.2.2) fun y hy => hb.s y hy)
  have := Cp.path_bind (ds := []) _ (fun k => Cp.ret (⟨a.v, a.l, b.code, b.mem, k, a.out⟩ : Sta)) q3 rfl
  rw [List.append_nil] at this
  rw [e3.2.1.1, e3.2.1.2, oa, ← ob] at this ⊢
  exact this
def zCd (ns : List ByteArray) (us : List Nat) (sp : Sp) (s : Sta) : Int := if zCs ns us sp = 0 then if zDx us.length sp s = true then 0 else 9 else zCs ns us sp
def zCP (ns : List ByteArray) (us : List Nat) (sp : Sp) (o : Int) (a b : Sta) : Int :=
 if zCs ns us sp = 0 then if zDx us.length sp a = true ∧ zDx us.length sp b = true then if zDX ns us o a b = 0 ∧ zDN us o.toNat a b = true then 0 else 9 else 9 else zCs ns us sp
def stU (ns : List ByteArray) (us : List Nat) (sp : Sp) (s : Sta) : List Int := if zCd ns us sp s = 0 then zAm sp s else []
def vaU (ns : List ByteArray) (us : List Nat) (sp : Sp) (o : Int) (a b : Sta) : List Int := if zCP ns us sp o a b = 0 then zAg sp us o.toNat a b else []
def paU (ns : List ByteArray) (us : List Nat) (sp : Sp) (o : Int) (a b : Sta) : List Int := if zCP ns us sp o a b = 0 then zAm sp a ++ zAg sp us o.toNat a b else []
structure Two (ns : List ByteArray) (us : List Nat) (sp : Sp) (o : Int) (a b : Sta) : Prop where
 may : zCs ns us sp = 0
 ia : zDx us.length sp a = true
 ib : zDx us.length sp b = true
 ok : zDX ns us o a b = 0
 al : zDN us o.toNat a b = true
theorem zGI {ns : List ByteArray} {us : List Nat} {sp : Sp} {o : Int} {a b : Sta} : zCP ns us sp o a b = 0 ↔ Two ns us sp o a b := by
 unfold zCP
 constructor
 ·intro h
  split at h
  ·rename_i h1
   split at h
   ·rename_i h2
    split at h
    ·rename_i h3; exact ⟨h1, h2.1, h2.2, h3.1, h3.2⟩
    ·cases h
   ·cases h
  ·rename_i h1; exact absurd h h1
 ·rintro ⟨h1, h2, h3, h4, h5⟩
  rw [if_pos h1, if_pos ⟨h2, h3⟩, if_pos ⟨h4, h5⟩]
theorem zJC {ns : List ByteArray} {us : List Nat} {sp : Sp} {s : Sta} : zCd ns us sp s = 0 ↔ zCs ns us sp = 0 ∧ zDx us.length sp s = true := by
 unfold zCd
 constructor
 ·intro h
  split at h
  ·rename_i h1
   split at h
   ·rename_i h2; exact ⟨h1, h2⟩
   ·cases h
  ·rename_i h1; exact absurd h h1
 ·rintro ⟨h1, h2⟩
  rw [if_pos h1, if_pos h2]
theorem zPN {sp : Sp} (h : SpOk sp) {us : List Nat} {o : Nat} {a b : Sta} (ha : InSp us.length sp a) (hb : InSp us.length sp b) (hs : zDN us o a b = true) : (zKh sp us o).path (zAm sp a ++ zAg sp us o a b) = some (a, b) := by
 have := Cp.path_bind (zGe us.length sp) (fun a => (zEg sp us o a).bind fun b => .ret (a, b)) (zMv h ha) (Cp.path_bind (ds := []) _ (fun b => Cp.ret (a, b)) (zQW h ha hb hs) rfl)
 rwa [List.append_nil] at this
theorem zOA {ns : List ByteArray} {us : List Nat} {sp : Sp} {o : Int} {a b : Sta} (h : Two ns us sp o a b) :
  zHb ns us sp o ⟨zAm sp a ++ zAg sp us o.toNat a b, 0, []⟩ = (⟨zAm sp a ++ zAg sp us o.toNat a b, ((zAm sp a ++ zAg sp us o.toNat a b).length : Int), zAm sp a ++ zAg sp us o.toNat a b⟩, a, b, 0) ∧ (zAm sp a ++ zAg sp us o.toNat a b).length ≤ 158 := by
 obtain ⟨hm, ha, hb, ho, hs⟩ := h
 have hsp := (zHp hm).2
 have hob := (zNY ho).ob
 obtain ⟨O, rfl, hO⟩ := zBU hob
 rw [Int.toNat_natCast] at hs ⊢
 have hp := zPN hsp ((zFD hsp).1 ha) ((zFD hsp).1 hb) hs
 have hl := Cp.path_deep _ (zQJ hsp us O) hp
 obtain ⟨z, hz⟩ : ∃ z, zAm sp a ++ zAg sp us O a b = z := ⟨_, rfl⟩
 rw [hz] at hp hl ⊢
 have hr := Cp.path_run (zKh sp us O) (L := z) (g := []) (a := 0) hp (by omega) (by simp; omega) ⟨[], by simp⟩
 simp only [Nat.zero_add, List.nil_append] at hr
 rw [zQI hm hob (by omega)]
 refine ⟨?_, hl⟩
 show zTw ((zKh sp us O).run ⟨z, ((0 : Nat) : Int), []⟩) = _
 rw [hr]
 rfl
theorem zPK {ns : List ByteArray} {us : List Nat} {sp : Sp} {s : Sta} (h : zCd ns us sp s = 0) : zCa ns us sp ⟨zAm sp s, 0, []⟩ = (⟨zAm sp s, ((zAm sp s).length : Int), zAm sp s⟩, s, 0) ∧ (zAm sp s).length ≤ 89 := by
 obtain ⟨hm, hb⟩ := zJC.1 h
 have hsp := (zHp hm).2
 have hp := zMv hsp ((zFD hsp).1 hb)
 have hl := Cp.path_deep _ (zJY hsp) hp
 obtain ⟨z, hz⟩ : ∃ z, zAm sp s = z := ⟨_, rfl⟩
 rw [hz] at hp hl ⊢
 have hr := Cp.path_run (zGe us.length sp) (L := z) (g := []) (a := 0) hp (by omega) (by simp; omega) ⟨[], by simp⟩
 simp only [Nat.zero_add, List.nil_append] at hr
 refine ⟨?_, hl⟩
 unfold zCa
 rw [if_pos hm, if_pos (by simp [zAn]; omega)]
 show zQA Sta.z ((zGe us.length sp).run ⟨z, ((0 : Nat) : Int), []⟩) = _
 rw [hr]
 rfl
def zDu (l : List Sta) : List (List D) := l.map (zAO false false false false)
@[push_cast] theorem zSL (l : List Sta) : (zDu l).length = l.length := by simp [zDu]
theorem zRS {l : List Sta} {n : Nat} {x : Sta} (h : l[n]? = some x) : zFb (zDu l) n = zAO false false false false x := by unfold zDu; exact zBm _ _ _ _ h
def zDk (ns : List ByteArray) (us : List Nat) (sp : Sp) : List Sta → Int
 | [] => 0
 | s :: r => if zCd ns us sp s = 0 then zDk ns us sp r else zCd ns us sp s
theorem zGv {ns : List ByteArray} {us : List Nat} {sp : Sp} : ∀ {l : List Sta} {i : Nat}, (∀ j s, j < i → l[j]? = some s → zCd ns us sp s = 0) → zDk ns us sp l = zDk ns us sp (l.drop i)
 | [], i, _ => by rw [List.drop_nil]
 | s :: r, 0, _ => rfl
 | s :: r, i + 1, h => by
  rw [List.drop_succ_cons, zDk, if_pos (h 0 s (by omega) rfl)]
  exact zGv fun j x hj hx => h (j + 1) x (by omega) (by simpa using hx)
theorem zOx (f g fl : Bool) (ns : List ByteArray) (us : List Nat) (sp : Sp) (l : List Sta) (hs : Szs ns) (hu : U32 us) (hw : sp.ws.length ≤ 1000) (hl : ∀ s ∈ l, Sml s) (hn : l.length ≤ 1000) :
  Fn Tryz.prog 77 [.agg [.sl f 1 (zS ns), .sl g 1 (zQ us)], .agg (spF false sp), .sl fl 6 (zDu l)] [] (.v (.int .i64 (zDk ns us sp l))) [] := by
 simp only [spF]
 refine Fn.of (fn := Tryz.f77) (by kernel_rfl) rfl (by kernel_rfl) ⟨[.agg [.sl f 1 (zS ns), .sl g 1 (zQ us)], .agg [.v (.int .i64 sp.code), .v (.int .i64 sp.mem), .v (.int .i64 sp.stack), .v (.int .i64 sp.val), .sl false 1 (zM sp.ws)], .sl fl 6 (zDu l), .v undef, .v undef, .v undef, .v undef, .v undef, .v undef, .v undef, .v undef, .v undef, .v undef, .v undef, .v undef, .v undef, .v undef, .v undef, .v undef, .v undef, .v undef, .v undef, .v undef, .v undef, .v undef, .v undef, .v undef, .v undef, .v undef, .v undef], []⟩ rfl ?_
 repeat' first | (with_reducible first | refine zA ?_ | refine zB ?_ | refine zI ?_) | ((with_reducible refine zC fun KC J hJ hKC => ?_); simp (maxSteps := 9999999) only [push_cast, seval, ↓reduceIte]) | ((with_reducible refine hJ _ _ ?_); clear hJ hKC KC J)
 refine zw 2 (γ := {i : Nat // i ≤ l.length ∧ ∀ j s, j < i → l[j]? = some s → zCd ns us sp s = 0}) (fun i => ⟨[.any, .any, .any, .ptr 0 0 0, .ptr 1 0 0, .any, .v (.int .i64 0), .any, .any, .any, .any, .sl fl 6 (zDu l), .v (.int .i64 l.length), .v (.int .i64 i.1), .any, .any, .any, .any, .any, .any, .any, .any, .any, .any, .any, .any, .any, .any, .any, .any], [.ent ⟨0, none, 25, [.sl f 1 (zS ns), .sl g 1 (zQ us)], .cells⟩, .ent ⟨0, none, 28, [.v (.int .i64 sp.code), .v (.int .i64 sp.mem), .v (.int .i64 sp.stack), .v (.int .i64 sp.val), .sl false 1 (zM sp.ws)], .cells⟩]⟩) (fun i => l.length - i.1) ⟨0, by omega, fun j s hj => by omega⟩ (fun i => rfl) (fun i => zAF rfl) (fun i => rfl) ⟨?_, Fq⟩ ?_
 ·exact Lq
 rintro ⟨i, hi, hz⟩
 by_cases hlt : (i : Int) < (l.length : Int)
 ·have hx : l[i]? = some l[i] := List.getElem?_eq_getElem (by omega)
  obtain ⟨s, hs0⟩ : ∃ s, l[i] = s := ⟨_, rfl⟩
  rw [hs0] at hx
  have hsm := hl s (List.mem_of_getElem? hx)
  have h1 := zKI f g false ns us sp s hs hu hw hsm
  have hge := zRS hx
  have hres : ¬ zCd ns us sp s = 0 → zDk ns us sp l = zCd ns us sp s := fun h => by
   have hdl := List.drop_eq_getElem_cons (i := i) (l := l) (by omega)
   rw [zGv hz, hdl, hs0, zDk, if_neg h]
  unfold zSy at h1
  obtain ⟨m, hm⟩ : ∃ m, zCs ns us sp = m := ⟨_, rfl⟩
  obtain ⟨b, hb⟩ : ∃ b, zDx us.length sp s = b := ⟨_, rfl⟩
  have hms : zCd ns us sp s = if m = 0 then if b = true then 0 else 9 else m := by unfold zCd; rw [hm, hb]
  rw [hm, hb] at h1
  simp only [zAO, spF] at hge h1
  by_cases h0 : m = 0
  ·subst h0
   rw [decide_eq_true rfl, Bool.true_and] at h1
   rw [if_pos rfl] at hms
   cases b
   ·rw [if_neg (by simp)] at hms
    rw [hres (by rw [hms]; decide), hms]
    repeat' first | (with_reducible first | refine zA ?_ | refine zB ?_ | refine zb ?_ | refine zAC ?_ | refine zF ?_ | refine zJ ?_ | refine zI ?_) | ((with_reducible refine And.intro ?_ ?_); · exact Sq) | ((first | with_reducible refine zC fun KC J hJ hKC => ?_ | (refine hKC _ _ _ _ _ (zD (h1) rfl rfl rfl ?_ ?_); (· exact Lq))); simp (maxSteps := 9999999) only [push_cast, seval, ↓reduceIte, hlt, hge, bne_self_eq_false]) | ((with_reducible refine hJ _ _ ?_); clear hJ hKC KC J) | ((with_reducible refine zG ?_ ?_); · rfl) | ((with_reducible refine zH ?_ ?_); · rfl)
    refine zE ?_
    simp (maxSteps := 9999999) only [push_cast, seval, ↓reduceIte, show Tryz.f77.results = #[(.tmp 6)] from rfl]
    exact Lq
   ·rw [if_pos rfl] at hms
    repeat' first | (with_reducible first | refine zA ?_ | refine zB ?_ | refine zP ?_ | refine zJ ?_ | refine zI ?_) | ((with_reducible refine And.intro ?_ ?_); · exact Sq) | ((first | with_reducible refine zC fun KC J hJ hKC => ?_ | (refine hKC _ _ _ _ _ (zD (h1) rfl rfl rfl ?_ ?_); (· exact Lq))); simp (maxSteps := 9999999) only [push_cast, seval, ↓reduceIte, hlt, hge, bne_self_eq_false, zp (i := i) (n := l.length) (by omega) (by omega)]) | ((with_reducible refine hJ _ _ ?_); clear hJ hKC KC J) | ((with_reducible refine zG ?_ ?_); · rfl) | ((with_reducible refine zH ?_ ?_); · rfl)
    refine ⟨⟨i + 1, by omega, fun j x hj hjx => ?_⟩, by simp only; omega, ?_, ⟨_, rfl⟩⟩
    ·by_cases hji : j = i
     ·subst hji; rw [hx] at hjx; cases hjx; exact hms
     ·exact hz j x (by omega) hjx
    ·exact Lq
  ·have h0' : (m != 0) = true := by simpa using h0
   rw [if_neg h0] at hms
   rw [hres (by rw [hms]; exact h0), hms]
   repeat' first | (with_reducible first | refine zA ?_ | refine zB ?_ | refine zb ?_ | refine zAC ?_ | refine zF ?_ | refine zJ ?_ | refine zI ?_) | ((with_reducible refine And.intro ?_ ?_); · exact Sq) | ((first | with_reducible refine zC fun KC J hJ hKC => ?_ | (refine hKC _ _ _ _ _ (zD (h1) rfl rfl rfl ?_ ?_); (· exact Lq))); simp (maxSteps := 9999999) only [push_cast, seval, ↓reduceIte, hlt, hge, h0']) | ((with_reducible refine hJ _ _ ?_); clear hJ hKC KC J) | ((with_reducible refine zG ?_ ?_); · rfl)
   refine zE ?_
   simp (maxSteps := 9999999) only [push_cast, seval, ↓reduceIte, show Tryz.f77.results = #[(.tmp 6)] from rfl]
   exact Lq
 ·have hin : i = l.length := by omega
  have hres : zDk ns us sp l = 0 := by rw [zGv hz, hin, List.drop_length]; rfl
  rw [hres]
  repeat' first | (with_reducible first | refine zA ?_ | refine zB ?_ | refine zm ?_ | refine zl ?_ | refine zF ?_ | refine zZ ?_) | ((with_reducible refine zC fun KC J hJ hKC => ?_); simp (maxSteps := 9999999) only [push_cast, seval, ↓reduceIte, hlt]) | ((with_reducible refine hJ _ _ ?_); clear hJ hKC KC J) | ((with_reducible refine zH ?_ ?_); · rfl)
  refine zE ?_
  simp (maxSteps := 9999999) only [push_cast, seval, ↓reduceIte, show Tryz.f77.results = #[(.tmp 6)] from rfl]
  exact Lq
theorem zRc (ns : List ByteArray) (us : List Nat) (sp : Sp) (s : Sta) : zDk ns us sp [s] = zCd ns us sp s := by
 simp only [zDk]
 split
 ·rename_i h; exact h.symm
 ·rfl
theorem zMf (f g : Bool) (ns : List ByteArray) (us : List Nat) (sp : Sp) (o : Int) (a b : Sta) (hs : Szs ns) (hu : U32 us) (hw : sp.ws.length ≤ 1000) (ha : Sml15 a) (hb : Sml15 b) :
  Fn Tryz.prog 79 [.agg [.sl false 1 (zS ns), .sl false 1 (zQ us)], .agg (spF false sp), .v (.int .i64 o), .agg (zAO false false false false a), .agg (zAO false false false false b)] [] (.v (.int .i64 (zCP ns us sp o a b))) [] := by
 have h1 := zOx false false true ns us sp [a, b] hs hu hw (by intro s hs; simp at hs; rcases hs with rfl | rfl; exact ha.sml; exact hb.sml) (by simp)
 have h2 := zLX ns us o a b hs hu ha hb
 obtain ⟨m, hm⟩ : ∃ m, zDk ns us sp [a, b] = m := ⟨_, rfl⟩
 have hbo : zCP ns us sp o a b = if m = 0 then if zDX ns us o a b = 0 ∧ zDN us o.toNat a b = true then 0 else 9 else m := by
  rw [← hm]
  by_cases h0 : zCs ns us sp = 0
  ·by_cases x1 : zDx us.length sp a = true
   ·have e1 : zCd ns us sp a = 0 := by unfold zCd; rw [if_pos h0, if_pos x1]
    by_cases x2 : zDx us.length sp b = true
    ·have e2 : zCd ns us sp b = 0 := by unfold zCd; rw [if_pos h0, if_pos x2]
     have e3 : zDk ns us sp [a, b] = 0 := by unfold zDk zDk zDk; rw [if_pos e1, if_pos e2]
     unfold zCP
     rw [e3, if_pos h0, if_pos ⟨x1, x2⟩, if_pos rfl]
    ·have e2 : zCd ns us sp b = 9 := by unfold zCd; rw [if_pos h0, if_neg x2]
     have e3 : zDk ns us sp [a, b] = 9 := by unfold zDk zDk; rw [if_pos e1, if_neg (by rw [e2]; decide), e2]
     unfold zCP
     rw [e3, if_pos h0, if_neg (fun h => x2 h.2)]
     rfl
   ·have e1 : zCd ns us sp a = 9 := by unfold zCd; rw [if_pos h0, if_neg x1]
    have e3 : zDk ns us sp [a, b] = 9 := by unfold zDk; rw [if_neg (by rw [e1]; decide), e1]
    unfold zCP
    rw [e3, if_pos h0, if_neg (fun h => x1 h.1)]
    rfl
  ·have e1 : zCd ns us sp a = zCs ns us sp := by unfold zCd; rw [if_neg h0]
   have e3 : zDk ns us sp [a, b] = zCs ns us sp := by unfold zDk; rw [if_neg (by rw [e1]; exact h0), e1]
   unfold zCP
   rw [e3, if_neg h0, if_neg h0]
 rw [hbo]
 rw [hm] at h1
 obtain ⟨e, he⟩ : ∃ e, zDX ns us o a b = e := ⟨_, rfl⟩
 obtain ⟨t, ht⟩ : ∃ t, zDN us o.toNat a b = t := ⟨_, rfl⟩
 rw [he, ht] at h2 ⊢
 simp only [zDu, List.map_cons, List.map_nil, zAO, spF] at h1 h2 ⊢
 refine Fn.of (fn := Tryz.f79) (by kernel_rfl) rfl (by kernel_rfl) ⟨[.agg [.sl false 1 (zS ns), .sl false 1 (zQ us)], .agg [.v (.int .i64 sp.code), .v (.int .i64 sp.mem), .v (.int .i64 sp.stack), .v (.int .i64 sp.val), .sl false 1 (zM sp.ws)], .v (.int .i64 o), .agg [.v (.int .i64 a.v), .v (.int .i64 a.l), .sl false 3 (zo a.code), .sl false 2 (za a.mem), .sl false 3 (zg a.stack), .sl false 2 (za a.out)], .agg [.v (.int .i64 b.v), .v (.int .i64 b.l), .sl false 3 (zo b.code), .sl false 2 (za b.mem), .sl false 3 (zg b.stack), .sl false 2 (za b.out)], .v undef, .v undef, .v undef, .v undef, .v undef, .v undef, .v undef, .v undef, .v undef, .v undef, .v undef, .v undef, .v undef, .v undef, .v undef, .v undef, .v undef, .v undef, .v undef, .v undef, .v undef, .v undef, .v undef, .v undef, .v undef, .v undef, .v undef, .v undef, .v undef, .v undef, .v undef, .v undef], []⟩ rfl ?_
 by_cases h0 : m = 0
 ·subst h0
  rw [if_pos rfl]
  by_cases e0 : e = 0
  ·subst e0
   rw [decide_eq_true rfl, Bool.true_and] at h2
   cases t
   ·rw [if_neg (by simp)]
    repeat' first | (with_reducible first | refine zA ?_ | refine zB ?_ | refine zb ?_ | refine zF ?_ | refine zJ ?_) | ((first | with_reducible refine zC fun KC J hJ hKC => ?_ | (refine hKC _ _ _ _ _ (zD (h1) rfl rfl rfl ?_ ?_); (· exact Lq)) | (refine hKC _ _ _ _ _ (zD (h2) rfl rfl rfl ?_ ?_); (· exact Lq))); simp (maxSteps := 9999999) only [push_cast, seval, ↓reduceIte, bne_self_eq_false, undef]) | ((with_reducible refine hJ _ _ ?_); clear hJ hKC KC J) | ((with_reducible refine zG ?_ ?_); · rfl) | ((with_reducible refine zH ?_ ?_); · rfl)
    refine zE ?_
    simp (maxSteps := 9999999) only [push_cast, seval, ↓reduceIte, show Tryz.f79.results = #[(.tmp 10)] from rfl]
    exact Lq
   ·rw [if_pos ⟨rfl, rfl⟩]
    repeat' first | (with_reducible first | refine zA ?_ | refine zB ?_ | refine zF ?_ | refine zJ ?_) | ((first | with_reducible refine zC fun KC J hJ hKC => ?_ | (refine hKC _ _ _ _ _ (zD (h1) rfl rfl rfl ?_ ?_); (· exact Lq)) | (refine hKC _ _ _ _ _ (zD (h2) rfl rfl rfl ?_ ?_); (· exact Lq))); simp (maxSteps := 9999999) only [push_cast, seval, ↓reduceIte, bne_self_eq_false, undef]) | ((with_reducible refine hJ _ _ ?_); clear hJ hKC KC J) | ((with_reducible refine zH ?_ ?_); · rfl)
    refine zE ?_
    simp (maxSteps := 9999999) only [push_cast, seval, ↓reduceIte, show Tryz.f79.results = #[(.tmp 10)] from rfl]
    exact Lq
  ·have e0' : (e != 0) = true := by simpa using e0
   rw [decide_eq_false e0, Bool.false_and] at h2
   rw [if_neg (fun h => e0 h.1)]
   repeat' first | (with_reducible first | refine zA ?_ | refine zB ?_ | refine zb ?_ | refine zF ?_ | refine zJ ?_) | ((first | with_reducible refine zC fun KC J hJ hKC => ?_ | (refine hKC _ _ _ _ _ (zD (h1) rfl rfl rfl ?_ ?_); (· exact Lq)) | (refine hKC _ _ _ _ _ (zD (h2) rfl rfl rfl ?_ ?_); (· exact Lq))); simp (maxSteps := 9999999) only [push_cast, seval, ↓reduceIte, bne_self_eq_false, e0', undef]) | ((with_reducible refine hJ _ _ ?_); clear hJ hKC KC J) | ((with_reducible refine zG ?_ ?_); · rfl) | ((with_reducible refine zH ?_ ?_); · rfl)
   refine zE ?_
   simp (maxSteps := 9999999) only [push_cast, seval, ↓reduceIte, show Tryz.f79.results = #[(.tmp 10)] from rfl]
   exact Lq
 ·have h0' : (m != 0) = true := by simpa using h0
  rw [if_neg h0]
  repeat' first | (with_reducible first | refine zA ?_ | refine zB ?_ | refine zb ?_ | refine zF ?_) | ((first | with_reducible refine zC fun KC J hJ hKC => ?_ | (refine hKC _ _ _ _ _ (zD (h1) rfl rfl rfl ?_ ?_); (· exact Lq))); simp (maxSteps := 9999999) only [push_cast, seval, ↓reduceIte, h0']) | ((with_reducible refine hJ _ _ ?_); clear hJ hKC KC J) | ((with_reducible refine zG ?_ ?_); · rfl)
  refine zE ?_
  simp (maxSteps := 9999999) only [push_cast, seval, ↓reduceIte, show Tryz.f79.results = #[(.tmp 10)] from rfl]
  exact Lq
def mvK (x y : Nat) : Nat → Option Nat := fun k => match Nat.beq k x with
 | true => some y
 | false => some k
def zJe (x y : Nat) (st : St) : St := ⟨st.fr.map (ren (mvK x y)), ((st.σ.map (zL (mvK x y))).set y (zL (mvK x y) (zAZ st.σ x))).set x .dead⟩
theorem zUu (x y : Nat) : mvK x y x = some y := by simp [mvK]
theorem zUc {x y k : Nat} (h : k ≠ x) : mvK x y k = some k := by
 have : Nat.beq k x = false := by
  cases hb : Nat.beq k x with
  | false => rfl
  | true => exact absurd (Nat.eq_of_beq_eq_true hb) h
 simp [mvK, this]
theorem Rel.moveK {B : Base} {st : St} {a : Act} {w : World} {x y : Nat} {e : Ent} (h : Rel B st a w) (hx : zAZ st.σ x = .ent e) (hy : zAZ st.σ y = .free) : Rel B (zJe x y st) a w := by
 obtain ⟨ρ, hp, ⟨hl, hr⟩, hm⟩ := h
 have hx' := zDA hx
 have hy' := zBy hy
 have hxy : x ≠ y := by rintro rfl; rw [hx'] at hy'; cases hy'
 have hxl := (List.getElem?_eq_some_iff.1 hx').1
 have hyl := (List.getElem?_eq_some_iff.1 hy').1
 obtain ⟨m, hm0⟩ : ∃ m, mvK x y = m := ⟨_, rfl⟩
 have mx : m x = some y := by rw [← hm0]; exact zUu x y
 have mne : ∀ k, k ≠ x → m k = some k := fun k hk => by rw [← hm0]; exact zUc hk
 let ρ' : Nat → Nat × Nat := fun k => if k = y then ρ x else ρ k
 obtain ⟨σ', hσ'⟩ : ∃ σ', ((st.σ.map (zL m)).set y (zL m (zAZ st.σ x))).set x .dead = σ' := ⟨_, rfl⟩
 have g1 : σ'[x]? = some .dead := by
  rw [← hσ', List.getElem?_set, if_pos rfl, if_pos (by simpa using hxl)]
 have g2 : σ'[y]? = some (.ent { e with cells := e.cells.map (ren m) }) := by
  rw [← hσ', List.getElem?_set, if_neg hxy, List.getElem?_set, if_pos rfl, if_pos (by simpa using hyl), hx]
  rfl
 have g3 : ∀ k, k ≠ x → k ≠ y → σ'[k]? = (st.σ[k]?).map (zL m) := fun k h1 h2 => by
  rw [← hσ', List.getElem?_set, if_neg (fun e => h1 e.symm), List.getElem?_set, if_neg (fun e => h2 e.symm), List.getElem?_map]
 have hent : ∀ k e', σ'[k]? = some (.ent e') → ∃ k0 e0, st.σ[k0]? = some (.ent e0) ∧ ρ' k = ρ k0 ∧ e' = { e0 with cells := e0.cells.map (ren m) } ∧ (k = y ∧ k0 = x ∨ k ≠ y ∧ k ≠ x ∧ k0 = k) := fun k e' he' => by
  by_cases h1 : k = x
  ·subst h1; rw [g1] at he'; cases he'
  by_cases h2 : k = y
  ·subst h2
   rw [g2] at he'
   cases he'
   exact ⟨x, e, hx', if_pos rfl, rfl, .inl ⟨rfl, rfl⟩⟩
  ·rw [g3 k h1 h2] at he'
   cases hs : st.σ[k]? with
   | none => rw [hs] at he'; cases he'
   | some s =>
    rw [hs] at he'
    cases s with
    | free => cases he'
    | dead => cases he'
    | ent e0 =>
     simp only [Option.map_some, zL, Option.some.injEq, Slot.ent.injEq] at he'
     exact ⟨k, e0, hs, if_neg h2, he'.symm, .inr ⟨h2, h1, rfl⟩⟩
 have hlive : ∀ k, live σ' k → ∃ k0, live st.σ k0 ∧ ρ' k = ρ k0 ∧ (k = y ∧ k0 = x ∨ k ≠ y ∧ k ≠ x ∧ k0 = k) := fun k ⟨e', he'⟩ => by
  obtain ⟨k0, e0, h1, h2, _, h4⟩ := hent k e' he'
  exact ⟨k0, ⟨e0, h1⟩, h2, h4⟩
 have huy : ∀ g, ¬ zBg st.σ y g := fun g ⟨s, hs, hg⟩ => by
  rw [hy'] at hs; cases hs; exact hg
 have hused : ∀ k j g, m k = some j → zBg st.σ k g → zBg σ' j g := fun k j g hk hu => by
  by_cases h1 : k = x
  ·subst h1
   rw [mx] at hk
   cases hk
   obtain ⟨s, hs, hg⟩ := hu
   rw [hx'] at hs
   cases hs
   exact ⟨_, g2, hg⟩
  ·rw [mne k h1] at hk
   cases hk
   have h2 : k ≠ y := by rintro rfl; exact huy g hu
   obtain ⟨s, hs, hg⟩ := hu
   exact ⟨_, by rw [g3 k h1 h2, hs]; rfl, zFS.2 hg⟩
 have T : Tr m w (Fz B st.σ ρ w) (Tb st.σ ρ) (zBg st.σ) w (Fz B σ' ρ' w) (Tb σ' ρ') (zBg σ') := {
  hz := fun b hb => ⟨hb.1, hb.2.1, fun k hk => by obtain ⟨k0, h1, h2, _⟩ := hlive k hk; rw [h2]; exact hb.2.2 k0 h1⟩
  hh := fun _ _ _ => rfl
  hU := hused
  ht := fun k j g p hk hu ht => by
   obtain ⟨e', he', hg, hp'⟩ := Tb.live ht
   obtain ⟨k0, e0, h1, h2, h3, h4⟩ := hent j e' he'
   have hk0 : k0 = k := by
    by_cases h5 : k = x
    ·subst h5
     rw [mx] at hk
     cases hk
     rcases h4 with ⟨_, h⟩ | ⟨h, _⟩
     ·exact h
     ·exact absurd rfl h
    ·rw [mne k h5] at hk
     cases hk
     rcases h4 with ⟨h, _⟩ | ⟨_, _, h⟩
     ·subst h; exact absurd hu (huy g)
     ·exact h
   subst hk0
   have := Tb.of (ρ := ρ) h1
   rw [← h2, hp'] at this
   have hge : e0.gen = e'.gen := by rw [h3]
   rw [hge, hg] at this
   exact this }
 have hst : zJe x y st = ⟨st.fr.map (ren m), σ'⟩ := by unfold zJe; rw [hm0, hσ']
 rw [hst]
 refine ⟨ρ', ?_, ⟨by simpa using hl, fun t d hd => ?_⟩, hm⟩
 ·exact {
   ent := fun k e' he' => by
    obtain ⟨k0, e0, h1, h2, h3, _⟩ := hent k e' he'
    rw [h2, h3]
    exact T.entOk (hp.ent k0 e0 h1) rfl
   inj := fun k k' hk hk' he => by
    obtain ⟨k0, h1, h2, h3⟩ := hlive k hk
    obtain ⟨k0', h1', h2', h3'⟩ := hlive k' hk'
    rw [h2, h2'] at he
    have := hp.inj k0 k0' h1 h1' he
    subst this
    rcases h3 with ⟨a1, a2⟩ | ⟨a1, a2, a3⟩ <;> rcases h3' with ⟨b1, b2⟩ | ⟨b1, b2, b3⟩
    ·rw [a1, b1]
    ·exact absurd (b3.symm.trans a2) b2
    ·exact absurd (a3.symm.trans b2) a2
    ·rw [← a3, ← b3]
   nf := fun k hk => by obtain ⟨k0, h1, h2, _⟩ := hlive k hk; rw [h2]; exact hp.nf k0 h1
   own := fun k hk => by obtain ⟨k0, h1, h2, _⟩ := hlive k hk; rw [h2]; exact hp.own k0 h1
   size := hp.size
   os := hp.os
   tape := hp.tape
   output := hp.output
   base := hp.base
   n0 := hp.n0
   m0 := hp.m0
   hist := fun k g hu => by
    obtain ⟨h1, h2⟩ := hp.hist k g hu
    by_cases hk : k = x
    ·subst hk
     refine ⟨⟨_, g1, trivial⟩, fun p ht => ?_⟩
     obtain ⟨e', he', _⟩ := Tb.live ht
     rw [g1] at he'; cases he'
    ·have hky : k ≠ y := by rintro rfl; exact huy g h1
     exact ⟨hused k k g (mne k hk) h1, fun p ht => h2 p (T.ht k k g p (mne k hk) h1 ht)⟩ }
 ·obtain ⟨d0, hd0, rfl⟩ := zAQ hd
  obtain ⟨u, a1, a2⟩ := hr t d0 hd0
  exact ⟨u, a1, T.ren a2⟩
theorem zMx {P : Program} {ro : Option Nat} {c : Code} {st : St} {K : Exit → St → Prop} (x y : Nat) (h : AWP P ro c st (fun e s => (∃ e0, zAZ s.σ x = .ent e0) ∧ zAZ s.σ y = .free ∧ K e (zJe x y s))) : AWP P ro c st K :=
 fun B a w hr Q hQ => h B a w hr Q fun e st' a' w' ⟨⟨e0, h1⟩, h2, h3⟩ hr' => hQ e (zJe x y st') a' w' h3 (hr'.moveK h1 h2)
def zUF (k : Option Nat) (n : Nat) : D := match k with
 | some j => eR j n
 | none => if n = 0 then .v (.slice none 0 0) else .any
theorem zDY (m : Nat → Option Nat) (k n : Nat) : ren m (eR k n) = zUF (m k) n := by
 unfold zUF eR
 cases n with
 | zero => cases m k <;> rfl
 | succ n =>
  rw [if_neg (by omega)]
  show (match m k with | some j => D.ref j (n + 1 - 1) (n + 1) | none => .any) = _
  cases m k <;> rfl
theorem zBV (j n : Nat) : zUF (some j) n = eR j n := rfl
def zBN (l : List Int) : Slot := if l.length = 0 then .free else .ent ⟨l.length - 1, some 1, 3, zt l, .cells⟩
theorem zBn (m : Nat → Option Nat) (l : List Int) : zL m (zBN l) = zBN l := by
 unfold zBN
 split
 ·rfl
 ·simp only [zL, zAE]
theorem zIa : zBN [] = .free := rfl
theorem zFM {l : List Int} {j : Nat} (h : l.length = j + 1) : zBN l = .ent ⟨j, some 1, 3, zt l, .cells⟩ := by
 unfold zBN
 rw [h, if_neg (by omega)]
 rfl
theorem zHz (k j : Nat) : eR k (j + 1) = .ref k j (j + 1) := rfl
theorem zPG (k : Nat) : eR k 0 = .v (.slice none 0 0) := rfl
abbrev mkP (q : VQ) (k : Nat) (L : List Int) : Ent := ⟨0, none, 125, [.sl q.f 1 (zS q.ns), .sl q.g 1 (zQ q.us), .v (.int .i64 q.sp.code), .v (.int .i64 q.sp.mem), .v (.int .i64 q.sp.stack), .v (.int .i64 q.sp.val), .sl false 1 (zM q.sp.ws), .v (.int .i64 (q.o : Int)), eR k L.length], .cells⟩
theorem zCG (m : Nat → Option Nat) (f : Bool) (z : Nat) (xs : List (List D)) : ren m (.sl f z xs) = .sl f z xs := rfl
theorem zDK (m : Nat → Option Nat) (x : Value) : ren m (.v x) = .v x := rfl
theorem zAX (m : Nat → Option Nat) (g : Nat) (a : Option Nat) (t : TypeId) (c : List D) (k : Kd) : zL m (.ent ⟨g, a, t, c, k⟩) = .ent ⟨g, a, t, c.map (ren m), k⟩ := rfl
theorem zv {q : VQ} {L : List Int} {k0 kr : Nat} {σ : List Slot} (h0 : zAZ σ k0 = .ent (mkP q kr L)) (h1 : zAZ σ kr = zBN L) (hne : Nat.beq k0 kr = false) : pick [k0, kr] σ = [.ent (mkP q 1 L), zBN L] := by
 have hb : Nat.beq kr kr = true := Nat.beq_refl kr
 simp only [pick, List.map_cons, List.map_nil, h0, h1, zBn, zAX, mkP, zCG, zDK, zDY, mOf, idx, hne, hb, zBV, Nat.zero_add]
theorem zAT (q : VQ) (L : List Int) (k0 kr slot : Nat) : zN [k0, kr, slot] [.ent (mkP q 1 L), zBN L] = [(k0, .ent (mkP q kr L)), (kr, zBN L)] := by
 simp only [zN, List.map_cons, List.map_nil, zBn, zAX, mkP, zCG, zDK, zDY, zX, List.zip_cons_cons, List.zip_nil_right, List.getElem?_cons_succ, List.getElem?_cons_zero, zBV]
theorem zGU {P : Program} {fn : Func} {st : St} {q : VQ} {L : List Int} (hr : fn.results = #[]) (h0 : zAZ st.σ 0 = .ent (mkP q 1 L)) (h1 : zAZ st.σ 1 = zBN L) : zJn P fn 2 (.tup []) [.ent (mkP q 1 L), zBN L] .normal st :=
 ⟨.inl rfl, [0, 1], True, .tup [], by unfold zHn; rw [hr]; rfl, trivial, by decide, fun k hk => by match k, hk with | 0, _ => rfl | 1, _ => rfl, zv h0 h1 rfl, zK _⟩
theorem zOK {L : List Int} {j : Nat} (h : L.length = j) : (zt L).take j = zt L := List.take_of_length_le (by rw [zAM]; omega)
theorem zAt (q : VQ) (L : List Int) (n : Int) (hL : L.length ≤ 1000) :
  Fn Tryz.prog 173 [.ptr 0 0 0, .v (.int .i64 n)] [.ent (mkP q 1 L), zBN L] (.tup []) [.ent (mkP q 1 (L ++ [n])), zBN (L ++ [n])] := by
 have hl : (L ++ [n]).length = L.length + 1 := by simp
 have hca : zt (L ++ [n]) = zt L ++ [.v (.int .i64 n)] := by rw [zEF]; rfl
 rw [zFM hl, hca]
 simp only [mkP]
 rw [hl, zHz]
 cases hn : L.length with
 | zero =>
  have hL0 := List.length_eq_zero_iff.1 hn
  subst hL0
  rw [zIa, zPG]
  refine Fn.of (fn := Tryz.f173) (by kernel_rfl) rfl (by kernel_rfl) ⟨[.ptr 0 0 0, .v (.int .i64 n), .v undef, .v undef, .v undef, .v undef, .v undef, .v undef, .v undef, .v undef, .v undef, .v undef, .v undef, .v undef], [.ent ⟨0, none, 125, [.sl q.f 1 (zS q.ns), .sl q.g 1 (zQ q.us), .v (.int .i64 q.sp.code), .v (.int .i64 q.sp.mem), .v (.int .i64 q.sp.stack), .v (.int .i64 q.sp.val), .sl false 1 (zM q.sp.ws), .v (.int .i64 (q.o : Int)), .v (.slice none 0 0)], .cells⟩, .free]⟩ rfl ?_
  refine zMx 3 1 ?_
  repeat' first | ((with_reducible refine zC fun KC J hJ hKC => ?_); simp (maxSteps := 9999999) only [push_cast, seval, ↓reduceIte]) | ((with_reducible refine hJ _ _ ?_); clear hJ hKC KC J)
  exact ⟨⟨_, rfl⟩, rfl, zGU (q := q) (L := [n]) rfl rfl rfl⟩
 | succ j =>
  refine Fn.of (fn := Tryz.f173) (by kernel_rfl) rfl (by kernel_rfl) ⟨[.ptr 0 0 0, .v (.int .i64 n), .v undef, .v undef, .v undef, .v undef, .v undef, .v undef, .v undef, .v undef, .v undef, .v undef, .v undef, .v undef], [.ent ⟨0, none, 125, [.sl q.f 1 (zS q.ns), .sl q.g 1 (zQ q.us), .v (.int .i64 q.sp.code), .v (.int .i64 q.sp.mem), .v (.int .i64 q.sp.stack), .v (.int .i64 q.sp.val), .sl false 1 (zM q.sp.ws), .v (.int .i64 (q.o : Int)), eR 1 (j + 1)], .cells⟩, zBN L]⟩ rfl ?_
  rw [zFM hn, zHz]
  have hc : (zt L).length = j + 1 := by rw [zAM, hn]
  have ht := zOK hn
  have hbq : Nat.beq j j = true := Nat.beq_refl j
  repeat' first | ((with_reducible refine And.intro ?_ ?_); · exact Sq) | ((with_reducible refine zC fun KC J hJ hKC => ?_); simp (maxSteps := 9999999) only [push_cast, seval, ↓reduceIte, hc, ht, hn, hbq, Nat.mul_one]) | ((with_reducible refine hJ _ _ ?_); clear hJ hKC KC J)
  refine zRO ?_
  simp (maxSteps := 9999999) only [push_cast, seval, ↓reduceIte, show Tryz.f173.results = #[] from rfl]
  refine ⟨?_, zK _⟩
  simp only [pick, show List.range 2 = [0, 1] from rfl, List.map_cons, List.map_nil, List.map_append, zAZ, zAX, zAE, zCG, zDK, mOf, idx]
  rfl
theorem zDS (q : VQ) (L : List Int) (v : Int) (hL : L.length ≤ 1000) :
  Fn Tryz.prog 172 [.ptr 0 0 0, .v (.int .i64 v)] [.ent (mkP q 1 L), zBN L] (.tup []) [.ent (mkP q 1 (L ++ [zCS q.sp v])), zBN (L ++ [zCS q.sp v])] := by
 have hu := zMj q.sp.val v
 have hk := zAt q L (zCS q.sp v) hL
 rw [show (zCQ q.sp.val v).1 = zCS q.sp v from rfl] at hu
 obtain ⟨u, hU⟩ : ∃ u, zCS q.sp v = u := ⟨_, rfl⟩
 rw [hU] at hk hu ⊢
 obtain ⟨L1, hL1⟩ : ∃ l, L ++ [u] = l := ⟨_, rfl⟩
 rw [hL1] at hk ⊢
 refine Fn.of (fn := Tryz.f172) (by kernel_rfl) rfl (by kernel_rfl) ⟨[.ptr 0 0 0, .v (.int .i64 v), .v undef, .v undef, .v undef, .v undef, .v undef, .v undef, .v undef, .v undef, .v undef, .v undef, .v undef, .v undef, .v undef, .v undef, .v undef, .v undef, .v undef], [.ent (mkP q 1 L), zBN L]⟩ rfl ?_
 simp only [mkP] at hk ⊢
 repeat' first | (with_reducible first | refine zA ?_ | refine zB ?_) | ((first | with_reducible refine zC fun KC J hJ hKC => ?_ | (refine hKC _ _ _ _ _ (zT [0, 1] hk rfl rfl rfl (by decide) (by simp) rfl (zv rfl rfl rfl) Lq ?_)) | (refine hKC _ _ _ _ _ (zD (hu) rfl rfl rfl ?_ ?_); (· exact Lq))); simp (maxSteps := 9999999) only [push_cast, seval, ↓reduceIte, List.cons_append, List.nil_append, zAT, mOf, idx]) | ((with_reducible refine hJ _ _ ?_); clear hJ hKC KC J)
 exact zGU rfl rfl rfl
theorem zIX (q : VQ) (L : List Int) (v : Int) (hL : L.length ≤ 1000) (hw : q.sp.ws.length ≤ 1000) :
  Fn Tryz.prog 174 [.ptr 0 0 0, .v (.int .i64 v)] [.ent (mkP q 1 L), zBN L] (.tup []) [.ent (mkP q 1 (L ++ [opU q.sp v])), zBN (L ++ [opU q.sp v])] := by
 have hu := zQd false q.sp.ws v (by omega)
 have hk := zAt q L (opU q.sp v) hL
 rw [show (zFl q.sp.ws v).1 = opU q.sp v from rfl] at hu
 obtain ⟨u, hU⟩ : ∃ u, opU q.sp v = u := ⟨_, rfl⟩
 rw [hU] at hk hu ⊢
 obtain ⟨L1, hL1⟩ : ∃ l, L ++ [u] = l := ⟨_, rfl⟩
 rw [hL1] at hk ⊢
 refine Fn.of (fn := Tryz.f174) (by kernel_rfl) rfl (by kernel_rfl) ⟨[.ptr 0 0 0, .v (.int .i64 v), .v undef, .v undef, .v undef, .v undef, .v undef, .v undef, .v undef, .v undef, .v undef, .v undef, .v undef, .v undef, .v undef, .v undef, .v undef, .v undef, .v undef], [.ent (mkP q 1 L), zBN L]⟩ rfl ?_
 simp only [mkP] at hk ⊢
 repeat' first | (with_reducible first | refine zA ?_ | refine zB ?_) | ((first | with_reducible refine zC fun KC J hJ hKC => ?_ | (refine hKC _ _ _ _ _ (zT [0, 1] hk rfl rfl rfl (by decide) (by simp) rfl (zv rfl rfl rfl) Lq ?_)) | (refine hKC _ _ _ _ _ (zD (hu) rfl rfl rfl ?_ ?_); (· exact Lq))); simp (maxSteps := 9999999) only [push_cast, seval, ↓reduceIte, List.cons_append, List.nil_append, zAT, mOf, idx]) | ((with_reducible refine hJ _ _ ?_); clear hJ hKC KC J)
 exact zGU rfl rfl rfl
theorem zFR (q : VQ) (L : List Int) (x : Bool × Int × Int) (hL : L.length ≤ 1000) :
  Fn Tryz.prog 176 [.ptr 0 0 0, .agg [.v (.bool x.1), .v (.int .i64 x.2.1), .v (.int .i64 x.2.2)]] [.ent (mkP q 1 L), zBN L] (.tup []) [.ent (mkP q 1 (L ++ [zCH q.sp x])), zBN (L ++ [zCH q.sp x])] := by
 obtain ⟨r, v, l⟩ := x
 unfold zCH
 cases r
 ·have hk := zDS q L v hL
  rw [if_neg (by simp)]
  simp only
  obtain ⟨L1, hL1⟩ : ∃ l, L ++ [zCS q.sp v] = l := ⟨_, rfl⟩
  rw [hL1] at hk ⊢
  refine Fn.of (fn := Tryz.f176) (by kernel_rfl) rfl (by kernel_rfl) ⟨[.ptr 0 0 0, .agg [.v (.bool false), .v (.int .i64 v), .v (.int .i64 l)], .v undef, .v undef, .v undef, .v undef, .v undef, .v undef, .v undef, .v undef, .v undef, .v undef, .v undef, .v undef], [.ent (mkP q 1 L), zBN L]⟩ rfl ?_
  simp only [mkP] at hk ⊢
  repeat' first | (with_reducible first | refine zA ?_ | refine zB ?_) | ((first | with_reducible refine zC fun KC J hJ hKC => ?_ | (refine hKC _ _ _ _ _ (zT [0, 1] hk rfl rfl rfl (by decide) (by simp) rfl (zv rfl rfl rfl) Lq ?_))); simp (maxSteps := 9999999) only [push_cast, seval, ↓reduceIte, List.cons_append, List.nil_append, zAT, mOf, idx]) | ((with_reducible refine hJ _ _ ?_); clear hJ hKC KC J) | ((with_reducible refine zH ?_ ?_); · rfl)
  exact zGU rfl rfl rfl
 ·have hk := zAt q L v hL
  rw [if_pos rfl]
  simp only
  obtain ⟨L1, hL1⟩ : ∃ l, L ++ [v] = l := ⟨_, rfl⟩
  rw [hL1] at hk ⊢
  refine Fn.of (fn := Tryz.f176) (by kernel_rfl) rfl (by kernel_rfl) ⟨[.ptr 0 0 0, .agg [.v (.bool true), .v (.int .i64 v), .v (.int .i64 l)], .v undef, .v undef, .v undef, .v undef, .v undef, .v undef, .v undef, .v undef, .v undef, .v undef, .v undef, .v undef], [.ent (mkP q 1 L), zBN L]⟩ rfl ?_
  simp only [mkP] at hk ⊢
  repeat' first | (with_reducible first | refine zA ?_ | refine zB ?_) | ((first | with_reducible refine zC fun KC J hJ hKC => ?_ | (refine hKC _ _ _ _ _ (zT [0, 1] hk rfl rfl rfl (by decide) (by simp) rfl (zv rfl rfl rfl) Lq ?_))); simp (maxSteps := 9999999) only [push_cast, seval, ↓reduceIte, List.cons_append, List.nil_append, zAT, mOf, idx]) | ((with_reducible refine hJ _ _ ?_); clear hJ hKC KC J) | ((with_reducible refine zG ?_ ?_); · rfl)
  exact zGU rfl rfl rfl
theorem zPE (q : VQ) (L : List Int) (x : Bool × Int × Int) (hL : L.length ≤ 1000) :
  Fn Tryz.prog 175 [.ptr 0 0 0, .agg [.v (.bool x.1), .v (.int .i64 x.2.1), .v (.int .i64 x.2.2)]] [.ent (mkP q 1 L), zBN L] (.tup []) [.ent (mkP q 1 (L ++ [zIS x])), zBN (L ++ [zIS x])] := by
 obtain ⟨r, v, l⟩ := x
 unfold zIS
 cases r
 ·have hk := zAt q L 0 hL
  rw [if_neg (by simp)]
  obtain ⟨L1, hL1⟩ : ∃ l, L ++ [0] = l := ⟨_, rfl⟩
  rw [hL1] at hk ⊢
  refine Fn.of (fn := Tryz.f175) (by kernel_rfl) rfl (by kernel_rfl) ⟨[.ptr 0 0 0, .agg [.v (.bool false), .v (.int .i64 v), .v (.int .i64 l)], .v undef, .v undef, .v undef, .v undef, .v undef, .v undef, .v undef, .v undef], [.ent (mkP q 1 L), zBN L]⟩ rfl ?_
  simp only [mkP] at hk ⊢
  repeat' first | (with_reducible first | refine zA ?_ | refine zB ?_) | ((first | with_reducible refine zC fun KC J hJ hKC => ?_ | (refine hKC _ _ _ _ _ (zT [0, 1] hk rfl rfl rfl (by decide) (by simp) rfl (zv rfl rfl rfl) Lq ?_))); simp (maxSteps := 9999999) only [push_cast, seval, ↓reduceIte, List.cons_append, List.nil_append, zAT, mOf, idx]) | ((with_reducible refine hJ _ _ ?_); clear hJ hKC KC J) | ((with_reducible refine zH ?_ ?_); · rfl)
  exact zGU rfl rfl rfl
 ·have hk := zAt q L 1 hL
  rw [if_pos rfl]
  obtain ⟨L1, hL1⟩ : ∃ l, L ++ [1] = l := ⟨_, rfl⟩
  rw [hL1] at hk ⊢
  refine Fn.of (fn := Tryz.f175) (by kernel_rfl) rfl (by kernel_rfl) ⟨[.ptr 0 0 0, .agg [.v (.bool true), .v (.int .i64 v), .v (.int .i64 l)], .v undef, .v undef, .v undef, .v undef, .v undef, .v undef, .v undef, .v undef], [.ent (mkP q 1 L), zBN L]⟩ rfl ?_
  simp only [mkP] at hk ⊢
  repeat' first | (with_reducible first | refine zA ?_ | refine zB ?_) | ((first | with_reducible refine zC fun KC J hJ hKC => ?_ | (refine hKC _ _ _ _ _ (zT [0, 1] hk rfl rfl rfl (by decide) (by simp) rfl (zv rfl rfl rfl) Lq ?_))); simp (maxSteps := 9999999) only [push_cast, seval, ↓reduceIte, List.cons_append, List.nil_append, zAT, mOf, idx]) | ((with_reducible refine hJ _ _ ?_); clear hJ hKC KC J) | ((with_reducible refine zG ?_ ?_); · rfl)
  exact zGU rfl rfl rfl
theorem zVE {P : Program} {fn : Func} {st : St} {q : VQ} {L : List Int} {d : D} (hr : match zHn P fn st with | some (c, x) => c ∧ leD (ren (mOf [0, 1]) x) d | none => False) (h0 : zAZ st.σ 0 = .ent (mkP q 1 L)) (h1 : zAZ st.σ 1 = zBN L) : zJn P fn 2 d [.ent (mkP q 1 L), zBN L] .ret st := by
 split at hr
 ·rename_i c x hx
  exact ⟨.inr rfl, [0, 1], c, x, hx, hr.1, by decide, fun k hk => by match k, hk with | 0, _ => rfl | 1, _ => rfl, zv h0 h1 rfl, hr.2⟩
 ·exact hr.elim
theorem zCn (q : VQ) (hq : VOk q) (L : List Int) (a : Int) (ha : zx q.us.length a = false) :
  Fn Tryz.prog 177 [.ptr 0 0 0, .v (.int .i64 a)] [.ent (mkP q 1 L), zBN L] (.v (.bool (hid q.us q.o a))) [.ent (mkP q 1 L), zBN L] := by
 obtain ⟨b, rfl, hb⟩ := zBU ha
 have hf := zHH q.f q.g q.ns q.us b q.o hq.szs hq.u32 hq.chk hb hq.lab
 unfold hid
 rw [Int.toNat_natCast]
 refine Fn.of (fn := Tryz.f177) (by kernel_rfl) rfl (by kernel_rfl) ⟨[.ptr 0 0 0, .v (.int .i64 (b : Int)), .v undef, .v undef, .v undef, .v undef, .v undef, .v undef, .v undef, .v undef, .v undef, .v undef, .v undef, .v undef, .v undef, .v undef, .v undef, .v undef, .v undef, .v undef, .v undef, .v undef], [.ent (mkP q 1 L), zBN L]⟩ rfl ?_
 simp only [mkP]
 repeat' first | (with_reducible first | refine zA ?_ | refine zB ?_) | ((first | with_reducible refine zC fun KC J hJ hKC => ?_ | with_reducible refine zY rfl fun KC J hJ hKC => ?_ | (refine hKC _ _ _ _ _ (zD (hf) rfl rfl rfl ?_ ?_); (· exact Lq))); simp (maxSteps := 9999999) only [push_cast, seval, ↓reduceIte]) | ((first | with_reducible refine hJ _ _ ?_ | (with_reducible refine hJ _ _ ?_ ?_; · kernel_rfl)); clear hJ hKC KC J)
 refine zF ?_
 refine zVE ?_ rfl rfl
 simp (maxSteps := 9999999) only [push_cast, seval, ↓reduceIte, show Tryz.f177.results = #[.tmp 4] from rfl]
 exact zK _
theorem zCM {α : Type} {f : α → List Int} {l : List α} {i : Nat} {x : α} (h : l[i]? = some x) : (l.take (i + 1)).flatMap f = (l.take i).flatMap f ++ f x := by
 obtain ⟨hi, rfl⟩ := List.getElem?_eq_some_iff.1 h
 rw [List.take_succ_eq_append_getElem hi, List.flatMap_append]
 simp only [List.flatMap_cons, List.flatMap_nil, List.append_nil]
theorem zAY {α : Type} {f : α → List Int} (h : ∀ x, (f x).length ≤ 3) : ∀ l : List α, (l.flatMap f).length ≤ 3 * l.length
 | [] => by simp
 | x :: l => by
  have := zAY h l
  have := h x
  rw [List.flatMap_cons, List.length_append, List.length_cons]
  omega
theorem zLJ (sp : Sp) (x : Int × Int × Int) : (zDW sp x).length ≤ 3 := by
 unfold zDW; split
 ·simp
 ·split <;> simp
theorem zIr (sp : Sp) (x : Int × Int) : (zCx sp x).length ≤ 3 := by simp [zCx]
theorem zJA (sp : Sp) (x : Bool × Int × Int) : (zDG sp x).length ≤ 3 := by simp [zDG]
theorem zPV (q : VQ) (f1 f2 f3 f4 : Bool) (s : Sta) (hw : q.sp.ws.length ≤ 1000) (h1 : s.code.length ≤ 50) (h2 : s.mem.length ≤ 50) (h3 : s.stack.length ≤ 50) :
  Fn Tryz.prog 78 [.ptr 0 0 0, .agg (zAO f1 f2 f3 f4 s)] [.ent (mkP q 1 []), .free] (.tup []) [.ent (mkP q 1 (zAm q.sp s)), zBN (zAm q.sp s)] := by
 have k0 := zAt q [] s.code.length (by simp)
 rw [List.nil_append, zIa] at k0
 obtain ⟨L0, hL0⟩ : ∃ l, [(s.code.length : Int)] = l := ⟨_, rfl⟩
 have hl0 : L0.length = 1 := by rw [← hL0]; rfl
 rw [hL0] at k0
 have hfin : zAm q.sp s = (((L0 ++ s.code.flatMap (zDW q.sp) ++ [(s.mem.length : Int)]) ++ s.mem.flatMap (zCx q.sp) ++ [(s.stack.length : Int)]) ++ s.stack.flatMap (zDG q.sp) ++ [s.v]) ++ [s.l] := by
  rw [← hL0]; simp [zAm]
 rw [hfin]
 simp only [zAO]
 refine Fn.of (fn := Tryz.f78) (by kernel_rfl) rfl (by kernel_rfl) ⟨[.ptr 0 0 0, .agg [.v (.int .i64 s.v), .v (.int .i64 s.l), .sl f1 3 (zo s.code), .sl f2 2 (za s.mem), .sl f3 3 (zg s.stack), .sl f4 2 (za s.out)], .v undef, .v undef, .v undef, .v undef, .v undef, .v undef, .v undef, .v undef, .v undef, .v undef, .v undef, .v undef, .v undef, .v undef, .v undef, .v undef, .v undef, .v undef, .v undef, .v undef, .v undef, .v undef, .v undef, .v undef, .v undef, .v undef, .v undef, .v undef, .v undef, .v undef, .v undef, .v undef, .v undef, .v undef, .v undef, .v undef, .v undef, .v undef, .v undef, .v undef, .v undef, .v undef, .v undef, .v undef, .v undef, .v undef, .v undef, .v undef, .v undef, .v undef, .v undef, .v undef, .v undef, .v undef, .v undef, .v undef, .v undef, .v undef, .v undef, .v undef, .v undef, .v undef, .v undef, .v undef, .v undef, .v undef, .v undef, .v undef, .v undef, .v undef, .v undef, .v undef, .v undef, .v undef, .v undef, .v undef, .v undef, .v undef, .v undef, .v undef, .v undef, .v undef, .v undef, .v undef, .v undef, .v undef, .v undef, .v undef, .v undef, .v undef, .v undef, .v undef, .v undef, .v undef, .v undef, .v undef, .v undef, .v undef, .v undef, .v undef, .v undef, .v undef, .v undef, .v undef, .v undef, .v undef, .v undef, .v undef, .v undef, .v undef, .v undef], [.ent (mkP q 1 []), .free]⟩ rfl ?_
 simp only [mkP] at k0 ⊢
 repeat' first | (with_reducible first | refine zA ?_ | refine zB ?_ | refine zI ?_) | ((first | with_reducible refine zC fun KC J hJ hKC => ?_ | (refine hKC _ _ _ _ _ (zT [0, 1] k0 rfl rfl rfl (by decide) (by simp) rfl rfl Lq ?_))); simp (maxSteps := 9999999) only [push_cast, seval, ↓reduceIte, List.cons_append, List.nil_append, zAT, mOf, idx]) | ((with_reducible refine hJ _ _ ?_); clear hJ hKC KC J)
 refine zw 4 (γ := {i : Nat // i ≤ s.code.length}) (fun i => ⟨[.ptr 0 0 0, .any, .any, .ptr 2 0 0, .kref true 3 0, .any, .any, .any, .any, .any, .any, .any, .any, .any, .any, .any, .any, .any, .any, .any, .any, .any, .any, .any, .any, .any, .any, .any, .any, .sl f1 3 (zo s.code), .v (.int .i64 s.code.length), .v (.int .i64 i.1), .any, .any, .any, .any, .any, .any, .any, .any, .any, .any, .any, .any, .any, .any, .any, .any, .any, .any, .any, .any, .any, .any, .any, .any, .any, .any, .any, .any, .any, .any, .any, .any, .any, .any, .any, .any, .any, .any, .any, .any, .any, .any, .any, .any, .any, .any, .any, .any, .any, .any, .any, .any, .any, .any, .any, .any, .any, .any, .any, .any, .any, .any, .any, .any, .any, .any, .any, .any, .any, .any, .any, .any, .any, .any, .any, .any, .any, .any, .any, .any, .any], [.ent (mkP q 1 (L0 ++ (s.code.take i.1).flatMap (zDW q.sp))), zBN (L0 ++ (s.code.take i.1).flatMap (zDW q.sp)), .ent ⟨0, none, 39, [.v (.int .i64 s.v), .v (.int .i64 s.l), .sl f1 3 (zo s.code), .sl f2 2 (za s.mem), .sl f3 3 (zg s.stack), .sl f4 2 (za s.out)], .cells⟩, .ent ⟨0, none, 234, [.bnd 172 [.ptr 0 0 0], .bnd 173 [.ptr 0 0 0], .bnd 173 [.ptr 0 0 0], .bnd 173 [.ptr 0 0 0]], .map [.int .i64 1, .int .i64 8, .int .i64 9, .int .i64 10]⟩]⟩) (fun i => s.code.length - i.1) ⟨0, by omega⟩ (fun i => rfl) (fun i => ?_) (fun i => rfl) ⟨?_, ?_⟩ ?_
 ·refine zAF ?_
  simp only [List.map_cons, List.map_nil, zAX, zBn, zCG, zDK, zDY, show mOf (List.range 4) 1 = some 1 from rfl, zBV]
  rfl
 ·exact Lq
 ·simp only [List.take_zero, List.flatMap_nil, List.append_nil]
  exact Fq
 rintro ⟨i, hi⟩
 dsimp only
 by_cases hlt : (i : Int) < (s.code.length : Int)
 ·have hx : s.code[i]? = some s.code[i] := List.getElem?_eq_getElem (by omega)
  obtain ⟨x, hx0⟩ : ∃ x, s.code[i] = x := ⟨_, rfl⟩
  rw [hx0] at hx
  have hst : L0 ++ (s.code.take (i + 1)).flatMap (zDW q.sp) = (L0 ++ (s.code.take i).flatMap (zDW q.sp)) ++ zDW q.sp x := by rw [zCM hx, List.append_assoc]
  have hwn := zp (i := i) (n := s.code.length) (by omega) (by omega)
  have hLl : (L0 ++ (s.code.take i).flatMap (zDW q.sp)).length ≤ 300 := by
   have hb := zAY (zLJ q.sp) (s.code.take i)
   rw [List.length_take] at hb
   simp only [List.length_append, List.length_cons, List.length_nil]
   omega
  obtain ⟨L, hL⟩ : ∃ L, L0 ++ (s.code.take i).flatMap (zDW q.sp) = L := ⟨_, rfl⟩
  rw [hL] at hst hLl ⊢
  obtain ⟨c, v, a⟩ := x
  have hge := zCj hx
  simp only at hge
  by_cases e1 : c = 1
  ·subst e1
   rw [show zDW q.sp (1, v, a) = [opU q.sp 1, zCS q.sp v, a] from rfl] at hst
   have g1 := zIX q L 1 (by omega) hw
   obtain ⟨L1, hL1⟩ : ∃ l, L ++ [opU q.sp 1] = l := ⟨_, rfl⟩
   have lL1 : L1.length = L.length + 1 := by rw [← hL1]; simp
   rw [hL1] at g1
   have g2 := zDS q L1 v (by omega)
   obtain ⟨L2, hL2⟩ : ∃ l, L1 ++ [zCS q.sp v] = l := ⟨_, rfl⟩
   have lL2 : L2.length = L1.length + 1 := by rw [← hL2]; simp
   rw [hL2] at g2
   have g3 := zAt q L2 a (by omega)
   obtain ⟨L3, hL3⟩ : ∃ l, L2 ++ [a] = l := ⟨_, rfl⟩
   have lL3 : L3.length = L2.length + 1 := by rw [← hL3]; simp
   rw [hL3] at g3
   have hnew : L ++ [opU q.sp 1, zCS q.sp v, a] = L3 := by rw [← hL3, ← hL2, ← hL1]; try simp only [List.append_assoc, List.cons_append, List.nil_append]
   rw [hnew] at hst
   simp only [mkP] at g1 g2 g3 ⊢
   repeat' first | (with_reducible first | refine zA ?_ | refine zB ?_ | refine zP ?_ | refine zJ ?_ | refine zI ?_) | ((with_reducible refine And.intro ?_ ?_); · exact Sq) | ((first | with_reducible refine zC fun KC J hJ hKC => ?_ | (refine hKC _ _ _ _ _ (zT [0, 1] g1 rfl rfl rfl (by decide) (by simp) rfl (zv rfl rfl rfl) Lq ?_)) | (refine hKC _ _ _ _ _ (zDm [0, 1] g2 rfl rfl rfl (by decide) (by simp) rfl (zv rfl rfl rfl) Lq ?_)) | (refine hKC _ _ _ _ _ (zT [0, 1] g3 rfl rfl rfl (by decide) (by simp) rfl (zv rfl rfl rfl) Lq ?_))); simp (maxSteps := 9999999) only [push_cast, seval, ↓reduceIte, hlt, hge, hwn, beq_self_eq_true, List.cons_append, List.nil_append, zAT, mOf, idx]) | ((with_reducible refine hJ _ _ ?_); clear hJ hKC KC J) | ((with_reducible refine zG ?_ ?_); · rfl)
   refine ⟨⟨i + 1, by omega⟩, by simp only; omega, ?_, ?_⟩
   ·exact Lq
   ·simp only [hst]; exact ⟨_, rfl⟩
  have e1' : (c == 1) = false := by simpa using e1
  by_cases e8 : c = 8
  ·subst e8
   rw [show zDW q.sp (8, v, a) = [opU q.sp 8, v] from rfl] at hst
   have g1 := zIX q L 8 (by omega) hw
   obtain ⟨L1, hL1⟩ : ∃ l, L ++ [opU q.sp 8] = l := ⟨_, rfl⟩
   have lL1 : L1.length = L.length + 1 := by rw [← hL1]; simp
   rw [hL1] at g1
   have g2 := zAt q L1 v (by omega)
   obtain ⟨L2, hL2⟩ : ∃ l, L1 ++ [v] = l := ⟨_, rfl⟩
   have lL2 : L2.length = L1.length + 1 := by rw [← hL2]; simp
   rw [hL2] at g2
   have hnew : L ++ [opU q.sp 8, v] = L2 := by rw [← hL2, ← hL1]; try simp only [List.append_assoc, List.cons_append, List.nil_append]
   rw [hnew] at hst
   simp only [mkP] at g1 g2 ⊢
   repeat' first | (with_reducible first | refine zA ?_ | refine zB ?_ | refine zP ?_ | refine zJ ?_ | refine zI ?_) | ((with_reducible refine And.intro ?_ ?_); · exact Sq) | ((first | with_reducible refine zC fun KC J hJ hKC => ?_ | (refine hKC _ _ _ _ _ (zT [0, 1] g1 rfl rfl rfl (by decide) (by simp) rfl (zv rfl rfl rfl) Lq ?_)) | (refine hKC _ _ _ _ _ (zDm [0, 1] g2 rfl rfl rfl (by decide) (by simp) rfl (zv rfl rfl rfl) Lq ?_))); simp (maxSteps := 9999999) only [push_cast, seval, ↓reduceIte, hlt, hge, hwn, beq_self_eq_true, List.cons_append, List.nil_append, zAT, mOf, idx]) | ((with_reducible refine hJ _ _ ?_); clear hJ hKC KC J) | ((with_reducible refine zG ?_ ?_); · rfl) | ((with_reducible refine zH ?_ ?_); · rfl)
   refine ⟨⟨i + 1, by omega⟩, by simp only; omega, ?_, ?_⟩
   ·exact Lq
   ·simp only [hst]; exact ⟨_, rfl⟩
  have e8' : (c == 8) = false := by simpa using e8
  by_cases e9 : c = 9
  ·subst e9
   rw [show zDW q.sp (9, v, a) = [opU q.sp 9, v] from rfl] at hst
   have g1 := zIX q L 9 (by omega) hw
   obtain ⟨L1, hL1⟩ : ∃ l, L ++ [opU q.sp 9] = l := ⟨_, rfl⟩
   have lL1 : L1.length = L.length + 1 := by rw [← hL1]; simp
   rw [hL1] at g1
   have g2 := zAt q L1 v (by omega)
   obtain ⟨L2, hL2⟩ : ∃ l, L1 ++ [v] = l := ⟨_, rfl⟩
   have lL2 : L2.length = L1.length + 1 := by rw [← hL2]; simp
   rw [hL2] at g2
   have hnew : L ++ [opU q.sp 9, v] = L2 := by rw [← hL2, ← hL1]; try simp only [List.append_assoc, List.cons_append, List.nil_append]
   rw [hnew] at hst
   simp only [mkP] at g1 g2 ⊢
   repeat' first | (with_reducible first | refine zA ?_ | refine zB ?_ | refine zP ?_ | refine zJ ?_ | refine zI ?_) | ((with_reducible refine And.intro ?_ ?_); · exact Sq) | ((first | with_reducible refine zC fun KC J hJ hKC => ?_ | (refine hKC _ _ _ _ _ (zT [0, 1] g1 rfl rfl rfl (by decide) (by simp) rfl (zv rfl rfl rfl) Lq ?_)) | (refine hKC _ _ _ _ _ (zDm [0, 1] g2 rfl rfl rfl (by decide) (by simp) rfl (zv rfl rfl rfl) Lq ?_))); simp (maxSteps := 9999999) only [push_cast, seval, ↓reduceIte, hlt, hge, hwn, beq_self_eq_true, List.cons_append, List.nil_append, zAT, mOf, idx]) | ((with_reducible refine hJ _ _ ?_); clear hJ hKC KC J) | ((with_reducible refine zG ?_ ?_); · rfl) | ((with_reducible refine zH ?_ ?_); · rfl)
   refine ⟨⟨i + 1, by omega⟩, by simp only; omega, ?_, ?_⟩
   ·exact Lq
   ·simp only [hst]; exact ⟨_, rfl⟩
  have e9' : (c == 9) = false := by simpa using e9
  by_cases e10 : c = 10
  ·subst e10
   rw [show zDW q.sp (10, v, a) = [opU q.sp 10, v] from rfl] at hst
   have g1 := zIX q L 10 (by omega) hw
   obtain ⟨L1, hL1⟩ : ∃ l, L ++ [opU q.sp 10] = l := ⟨_, rfl⟩
   have lL1 : L1.length = L.length + 1 := by rw [← hL1]; simp
   rw [hL1] at g1
   have g2 := zAt q L1 v (by omega)
   obtain ⟨L2, hL2⟩ : ∃ l, L1 ++ [v] = l := ⟨_, rfl⟩
   have lL2 : L2.length = L1.length + 1 := by rw [← hL2]; simp
   rw [hL2] at g2
   have hnew : L ++ [opU q.sp 10, v] = L2 := by rw [← hL2, ← hL1]; try simp only [List.append_assoc, List.cons_append, List.nil_append]
   rw [hnew] at hst
   simp only [mkP] at g1 g2 ⊢
   repeat' first | (with_reducible first | refine zA ?_ | refine zB ?_ | refine zP ?_ | refine zJ ?_ | refine zI ?_) | ((with_reducible refine And.intro ?_ ?_); · exact Sq) | ((first | with_reducible refine zC fun KC J hJ hKC => ?_ | (refine hKC _ _ _ _ _ (zT [0, 1] g1 rfl rfl rfl (by decide) (by simp) rfl (zv rfl rfl rfl) Lq ?_)) | (refine hKC _ _ _ _ _ (zDm [0, 1] g2 rfl rfl rfl (by decide) (by simp) rfl (zv rfl rfl rfl) Lq ?_))); simp (maxSteps := 9999999) only [push_cast, seval, ↓reduceIte, hlt, hge, hwn, beq_self_eq_true, List.cons_append, List.nil_append, zAT, mOf, idx]) | ((with_reducible refine hJ _ _ ?_); clear hJ hKC KC J) | ((with_reducible refine zG ?_ ?_); · rfl) | ((with_reducible refine zH ?_ ?_); · rfl)
   refine ⟨⟨i + 1, by omega⟩, by simp only; omega, ?_, ?_⟩
   ·exact Lq
   ·simp only [hst]; exact ⟨_, rfl⟩
  have e10' : (c == 10) = false := by simpa using e10
  rw [show zDW q.sp (c, v, a) = [opU q.sp c] by unfold zDW; simp only [if_neg e1, if_neg (show ¬ (c = 8 ∨ c = 9 ∨ c = 10) from fun h => by rcases h with h | h | h <;> contradiction)]] at hst
  have g1 := zIX q L c (by omega) hw
  obtain ⟨L1, hL1⟩ : ∃ l, L ++ [opU q.sp c] = l := ⟨_, rfl⟩
  have lL1 : L1.length = L.length + 1 := by rw [← hL1]; simp
  rw [hL1] at g1
  have hnew : L ++ [opU q.sp c] = L1 := by rw [← hL1]; try simp only [List.append_assoc, List.cons_append, List.nil_append]
  rw [hnew] at hst
  simp only [mkP] at g1 ⊢
  repeat' first | (with_reducible first | refine zA ?_ | refine zB ?_ | refine zP ?_ | refine zJ ?_ | refine zI ?_) | ((with_reducible refine And.intro ?_ ?_); · exact Sq) | ((first | with_reducible refine zC fun KC J hJ hKC => ?_ | (refine hKC _ _ _ _ _ (zT [0, 1] g1 rfl rfl rfl (by decide) (by simp) rfl (zv rfl rfl rfl) Lq ?_))); simp (maxSteps := 9999999) only [push_cast, seval, ↓reduceIte, hlt, hge, hwn, e1', e8', e9', e10', List.cons_append, List.nil_append, zAT, mOf, idx]) | ((with_reducible refine hJ _ _ ?_); clear hJ hKC KC J) | ((with_reducible refine zG ?_ ?_); · rfl) | ((with_reducible refine zH ?_ ?_); · rfl)
  refine ⟨⟨i + 1, by omega⟩, by simp only; omega, ?_, ?_⟩
  ·exact Lq
  ·simp only [hst]; exact ⟨_, rfl⟩
 have hin : i = s.code.length := by omega
 have hend : L0 ++ (s.code.take i).flatMap (zDW q.sp) = L0 ++ s.code.flatMap (zDW q.sp) := by rw [hin, List.take_length]
 rw [hend]
 obtain ⟨A1, hA1⟩ : ∃ l, L0 ++ s.code.flatMap (zDW q.sp) = l := ⟨_, rfl⟩
 have lA1 : A1.length ≤ L0.length + 3 * s.code.length := by
  have hb := zAY (zLJ q.sp) s.code
  rw [← hA1, List.length_append]; omega
 have k1 := zAt q A1 (s.mem.length : Int) (by omega)
 rw [hA1] at ⊢
 obtain ⟨A2, hA2⟩ : ∃ l, A1 ++ [(s.mem.length : Int)] = l := ⟨_, rfl⟩
 have lA2 : A2.length = A1.length + 1 := by rw [← hA2]; simp
 rw [hA2] at k1
 simp only [mkP, hA2] at k1 ⊢
 repeat' first | (with_reducible first | refine zA ?_ | refine zB ?_ | refine zm ?_ | refine zl ?_ | refine zZ ?_ | refine zI ?_) | ((first | with_reducible refine zC fun KC J hJ hKC => ?_ | (refine hKC _ _ _ _ _ (zT [0, 1] k1 rfl rfl rfl (by decide) (by simp) rfl (zv rfl rfl rfl) Lq ?_))); simp (maxSteps := 9999999) only [push_cast, seval, ↓reduceIte, hlt, Int.lt_irrefl, List.cons_append, List.nil_append, zAT, mOf, idx]) | ((with_reducible refine hJ _ _ ?_); clear hJ hKC KC J) | ((with_reducible refine zH ?_ ?_); · rfl)
 refine zw 4 (γ := {i : Nat // i ≤ s.mem.length}) (fun i => ⟨[.ptr 0 0 0, .any, .any, .ptr 2 0 0, .kref true 3 0, .any, .any, .any, .any, .any, .any, .any, .any, .any, .any, .any, .any, .any, .any, .any, .any, .any, .any, .any, .any, .any, .any, .any, .any, .any, .any, .any, .any, .any, .any, .any, .any, .any, .any, .any, .any, .any, .any, .any, .any, .any, .any, .any, .any, .any, .any, .any, .any, .any, .any, .any, .any, .any, .any, .any, .any, .any, .any, .any, .any, .sl f2 2 (za s.mem), .v (.int .i64 s.mem.length), .v (.int .i64 i.1), .any, .any, .any, .any, .any, .any, .any, .any, .any, .any, .any, .any, .any, .any, .any, .any, .any, .any, .any, .any, .any, .any, .any, .any, .any, .any, .any, .any, .any, .any, .any, .any, .any, .any, .any, .any, .any, .any, .any, .any, .any, .any, .any, .any, .any], [.ent (mkP q 1 (A2 ++ (s.mem.take i.1).flatMap (zCx q.sp))), zBN (A2 ++ (s.mem.take i.1).flatMap (zCx q.sp)), .ent ⟨0, none, 39, [.v (.int .i64 s.v), .v (.int .i64 s.l), .sl f1 3 (zo s.code), .sl f2 2 (za s.mem), .sl f3 3 (zg s.stack), .sl f4 2 (za s.out)], .cells⟩, .ent ⟨0, none, 234, [.bnd 172 [.ptr 0 0 0], .bnd 173 [.ptr 0 0 0], .bnd 173 [.ptr 0 0 0], .bnd 173 [.ptr 0 0 0]], .map [.int .i64 1, .int .i64 8, .int .i64 9, .int .i64 10]⟩]⟩) (fun i => s.mem.length - i.1) ⟨0, by omega⟩ (fun i => rfl) (fun i => ?_) (fun i => rfl) ⟨?_, ?_⟩ ?_
 ·refine zAF ?_
  simp only [List.map_cons, List.map_nil, zAX, zBn, zCG, zDK, zDY, show mOf (List.range 4) 1 = some 1 from rfl, zBV]
  rfl
 ·exact Lq
 ·simp only [List.take_zero, List.flatMap_nil, List.append_nil]
  exact Fq
 rintro ⟨i, hi⟩
 dsimp only
 by_cases hlt : (i : Int) < (s.mem.length : Int)
 ·have hx : s.mem[i]? = some s.mem[i] := List.getElem?_eq_getElem (by omega)
  obtain ⟨x, hx0⟩ : ∃ x, s.mem[i] = x := ⟨_, rfl⟩
  rw [hx0] at hx
  have hst : A2 ++ (s.mem.take (i + 1)).flatMap (zCx q.sp) = (A2 ++ (s.mem.take i).flatMap (zCx q.sp)) ++ zCx q.sp x := by rw [zCM hx, List.append_assoc]
  have hwn := zp (i := i) (n := s.mem.length) (by omega) (by omega)
  have hLl : (A2 ++ (s.mem.take i).flatMap (zCx q.sp)).length ≤ 520 := by
   have hb := zAY (zIr q.sp) (s.mem.take i)
   rw [List.length_take] at hb
   simp only [List.length_append, List.length_cons, List.length_nil]
   omega
  obtain ⟨L, hL⟩ : ∃ L, A2 ++ (s.mem.take i).flatMap (zCx q.sp) = L := ⟨_, rfl⟩
  rw [hL] at hst hLl ⊢
  obtain ⟨v, a⟩ := x
  have hge := zBh hx
  simp only at hge
  rw [show zCx q.sp (v, a) = [zCS q.sp v, a] from rfl] at hst
  have g1 := zDS q L v (by omega)
  obtain ⟨L1, hL1⟩ : ∃ l, L ++ [zCS q.sp v] = l := ⟨_, rfl⟩
  have lL1 : L1.length = L.length + 1 := by rw [← hL1]; simp
  rw [hL1] at g1
  have g2 := zAt q L1 a (by omega)
  obtain ⟨L2, hL2⟩ : ∃ l, L1 ++ [a] = l := ⟨_, rfl⟩
  have lL2 : L2.length = L1.length + 1 := by rw [← hL2]; simp
  rw [hL2] at g2
  have hnew : L ++ [zCS q.sp v, a] = L2 := by rw [← hL2, ← hL1]; try simp only [List.append_assoc, List.cons_append, List.nil_append]
  rw [hnew] at hst
  simp only [mkP] at g1 g2 ⊢
  repeat' first | (with_reducible first | refine zA ?_ | refine zB ?_ | refine zP ?_ | refine zJ ?_ | refine zI ?_) | ((with_reducible refine And.intro ?_ ?_); · exact Sq) | ((first | with_reducible refine zC fun KC J hJ hKC => ?_ | (refine hKC _ _ _ _ _ (zT [0, 1] g1 rfl rfl rfl (by decide) (by simp) rfl (zv rfl rfl rfl) Lq ?_)) | (refine hKC _ _ _ _ _ (zT [0, 1] g2 rfl rfl rfl (by decide) (by simp) rfl (zv rfl rfl rfl) Lq ?_))); simp (maxSteps := 9999999) only [push_cast, seval, ↓reduceIte, hlt, hge, hwn, List.cons_append, List.nil_append, zAT, mOf, idx]) | ((with_reducible refine hJ _ _ ?_); clear hJ hKC KC J) | ((with_reducible refine zG ?_ ?_); · rfl)
  refine ⟨⟨i + 1, by omega⟩, by simp only; omega, ?_, ?_⟩
  ·exact Lq
  ·simp only [hst]; exact ⟨_, rfl⟩
 have hin : i = s.mem.length := by omega
 have hend : A2 ++ (s.mem.take i).flatMap (zCx q.sp) = A2 ++ s.mem.flatMap (zCx q.sp) := by rw [hin, List.take_length]
 rw [hend]
 obtain ⟨A3, hA3⟩ : ∃ l, A2 ++ s.mem.flatMap (zCx q.sp) = l := ⟨_, rfl⟩
 have lA3 : A3.length ≤ A2.length + 3 * s.mem.length := by
  have hb := zAY (zIr q.sp) s.mem
  rw [← hA3, List.length_append]; omega
 have k2 := zAt q A3 (s.stack.length : Int) (by omega)
 rw [hA3] at ⊢
 obtain ⟨A4, hA4⟩ : ∃ l, A3 ++ [(s.stack.length : Int)] = l := ⟨_, rfl⟩
 have lA4 : A4.length = A3.length + 1 := by rw [← hA4]; simp
 rw [hA4] at k2
 simp only [mkP, hA4] at k2 ⊢
 repeat' first | (with_reducible first | refine zA ?_ | refine zB ?_ | refine zm ?_ | refine zl ?_ | refine zZ ?_ | refine zI ?_) | ((first | with_reducible refine zC fun KC J hJ hKC => ?_ | (refine hKC _ _ _ _ _ (zT [0, 1] k2 rfl rfl rfl (by decide) (by simp) rfl (zv rfl rfl rfl) Lq ?_))); simp (maxSteps := 9999999) only [push_cast, seval, ↓reduceIte, hlt, Int.lt_irrefl, List.cons_append, List.nil_append, zAT, mOf, idx]) | ((with_reducible refine hJ _ _ ?_); clear hJ hKC KC J) | ((with_reducible refine zH ?_ ?_); · rfl)
 refine zw 4 (γ := {i : Nat // i ≤ s.stack.length}) (fun i => ⟨[.ptr 0 0 0, .any, .any, .ptr 2 0 0, .kref true 3 0, .any, .any, .any, .any, .any, .any, .any, .any, .any, .any, .any, .any, .any, .any, .any, .any, .any, .any, .any, .any, .any, .any, .any, .any, .any, .any, .any, .any, .any, .any, .any, .any, .any, .any, .any, .any, .any, .any, .any, .any, .any, .any, .any, .any, .any, .any, .any, .any, .any, .any, .any, .any, .any, .any, .any, .any, .any, .any, .any, .any, .any, .any, .any, .any, .any, .any, .any, .any, .any, .any, .any, .any, .any, .any, .any, .any, .any, .any, .any, .any, .any, .sl f3 3 (zg s.stack), .v (.int .i64 s.stack.length), .v (.int .i64 i.1), .any, .any, .any, .any, .any, .any, .any, .any, .any, .any, .any, .any, .any, .any, .any, .any, .any, .any, .any, .any, .any, .any, .any, .any], [.ent (mkP q 1 (A4 ++ (s.stack.take i.1).flatMap (zDG q.sp))), zBN (A4 ++ (s.stack.take i.1).flatMap (zDG q.sp)), .ent ⟨0, none, 39, [.v (.int .i64 s.v), .v (.int .i64 s.l), .sl f1 3 (zo s.code), .sl f2 2 (za s.mem), .sl f3 3 (zg s.stack), .sl f4 2 (za s.out)], .cells⟩, .ent ⟨0, none, 234, [.bnd 172 [.ptr 0 0 0], .bnd 173 [.ptr 0 0 0], .bnd 173 [.ptr 0 0 0], .bnd 173 [.ptr 0 0 0]], .map [.int .i64 1, .int .i64 8, .int .i64 9, .int .i64 10]⟩]⟩) (fun i => s.stack.length - i.1) ⟨0, by omega⟩ (fun i => rfl) (fun i => ?_) (fun i => rfl) ⟨?_, ?_⟩ ?_
 ·refine zAF ?_
  simp only [List.map_cons, List.map_nil, zAX, zBn, zCG, zDK, zDY, show mOf (List.range 4) 1 = some 1 from rfl, zBV]
  rfl
 ·exact Lq
 ·simp only [List.take_zero, List.flatMap_nil, List.append_nil]
  exact Fq
 rintro ⟨i, hi⟩
 dsimp only
 by_cases hlt : (i : Int) < (s.stack.length : Int)
 ·have hx : s.stack[i]? = some s.stack[i] := List.getElem?_eq_getElem (by omega)
  obtain ⟨x, hx0⟩ : ∃ x, s.stack[i] = x := ⟨_, rfl⟩
  rw [hx0] at hx
  have hst : A4 ++ (s.stack.take (i + 1)).flatMap (zDG q.sp) = (A4 ++ (s.stack.take i).flatMap (zDG q.sp)) ++ zDG q.sp x := by rw [zCM hx, List.append_assoc]
  have hwn := zp (i := i) (n := s.stack.length) (by omega) (by omega)
  have hLl : (A4 ++ (s.stack.take i).flatMap (zDG q.sp)).length ≤ 700 := by
   have hb := zAY (zJA q.sp) (s.stack.take i)
   rw [List.length_take] at hb
   simp only [List.length_append, List.length_cons, List.length_nil]
   omega
  obtain ⟨L, hL⟩ : ∃ L, A4 ++ (s.stack.take i).flatMap (zDG q.sp) = L := ⟨_, rfl⟩
  rw [hL] at hst hLl ⊢
  obtain ⟨r, v, a⟩ := x
  have hge := zBi hx
  simp only at hge
  rw [show zDG q.sp (r, v, a) = [zIS (r, v, a), zCH q.sp (r, v, a), a] from rfl] at hst
  have g1 := zPE q L (r, v, a) (by omega)
  obtain ⟨L1, hL1⟩ : ∃ l, L ++ [zIS (r, v, a)] = l := ⟨_, rfl⟩
  have lL1 : L1.length = L.length + 1 := by rw [← hL1]; simp
  rw [hL1] at g1
  have g2 := zFR q L1 (r, v, a) (by omega)
  obtain ⟨L2, hL2⟩ : ∃ l, L1 ++ [zCH q.sp (r, v, a)] = l := ⟨_, rfl⟩
  have lL2 : L2.length = L1.length + 1 := by rw [← hL2]; simp
  rw [hL2] at g2
  have g3 := zAt q L2 a (by omega)
  obtain ⟨L3, hL3⟩ : ∃ l, L2 ++ [a] = l := ⟨_, rfl⟩
  have lL3 : L3.length = L2.length + 1 := by rw [← hL3]; simp
  rw [hL3] at g3
  have hnew : L ++ [zIS (r, v, a), zCH q.sp (r, v, a), a] = L3 := by rw [← hL3, ← hL2, ← hL1]; try simp only [List.append_assoc, List.cons_append, List.nil_append]
  rw [hnew] at hst
  simp only [mkP] at g1 g2 g3 ⊢
  repeat' first | (with_reducible first | refine zA ?_ | refine zB ?_ | refine zP ?_ | refine zJ ?_ | refine zI ?_) | ((with_reducible refine And.intro ?_ ?_); · exact Sq) | ((first | with_reducible refine zC fun KC J hJ hKC => ?_ | (refine hKC _ _ _ _ _ (zT [0, 1] g1 rfl rfl rfl (by decide) (by simp) rfl (zv rfl rfl rfl) Lq ?_)) | (refine hKC _ _ _ _ _ (zT [0, 1] g2 rfl rfl rfl (by decide) (by simp) rfl (zv rfl rfl rfl) Lq ?_)) | (refine hKC _ _ _ _ _ (zT [0, 1] g3 rfl rfl rfl (by decide) (by simp) rfl (zv rfl rfl rfl) Lq ?_))); simp (maxSteps := 9999999) only [push_cast, seval, ↓reduceIte, hlt, hge, hwn, List.cons_append, List.nil_append, zAT, mOf, idx]) | ((with_reducible refine hJ _ _ ?_); clear hJ hKC KC J) | ((with_reducible refine zG ?_ ?_); · rfl)
  refine ⟨⟨i + 1, by omega⟩, by simp only; omega, ?_, ?_⟩
  ·exact Lq
  ·simp only [hst]; exact ⟨_, rfl⟩
 have hin : i = s.stack.length := by omega
 have hend : A4 ++ (s.stack.take i).flatMap (zDG q.sp) = A4 ++ s.stack.flatMap (zDG q.sp) := by rw [hin, List.take_length]
 rw [hend]
 obtain ⟨A5, hA5⟩ : ∃ l, A4 ++ s.stack.flatMap (zDG q.sp) = l := ⟨_, rfl⟩
 have lA5 : A5.length ≤ A4.length + 3 * s.stack.length := by
  have hb := zAY (zJA q.sp) s.stack
  rw [← hA5, List.length_append]; omega
 have k3 := zAt q A5 s.v (by omega)
 rw [hA5] at ⊢
 obtain ⟨A6, hA6⟩ : ∃ l, A5 ++ [s.v] = l := ⟨_, rfl⟩
 have lA6 : A6.length = A5.length + 1 := by rw [← hA6]; simp
 rw [hA6] at k3
 have k4 := zAt q A6 s.l (by omega)
 obtain ⟨A7, hA7⟩ : ∃ l, A6 ++ [s.l] = l := ⟨_, rfl⟩
 rw [hA7] at k4
 simp only [mkP, hA6, hA7] at k3 k4 ⊢
 repeat' first | (with_reducible first | refine zA ?_ | refine zB ?_ | refine zm ?_ | refine zl ?_ | refine zZ ?_) | ((first | with_reducible refine zC fun KC J hJ hKC => ?_ | (refine hKC _ _ _ _ _ (zT [0, 1] k3 rfl rfl rfl (by decide) (by simp) rfl (zv rfl rfl rfl) Lq ?_)) | (refine hKC _ _ _ _ _ (zT [0, 1] k4 rfl rfl rfl (by decide) (by simp) rfl (zv rfl rfl rfl) Lq ?_))); simp (maxSteps := 9999999) only [push_cast, seval, ↓reduceIte, hlt, Int.lt_irrefl, List.cons_append, List.nil_append, zAT, mOf, idx]) | ((with_reducible refine hJ _ _ ?_); clear hJ hKC KC J) | ((with_reducible refine zH ?_ ?_); · rfl)
 exact zGU rfl rfl rfl
theorem zNx (sp : Sp) (us : List Nat) (o : Nat) (x : Int × Int × Int) : (vIL sp us o x).length ≤ 3 := by unfold vIL; split <;> simp
theorem zNo (sp : Sp) (us : List Nat) (o : Nat) (x : Int × Int) : (vAL sp us o x).length ≤ 3 := by unfold vAL; split <;> simp
theorem zHP (sp : Sp) (us : List Nat) (o : Nat) (x : Bool × Int × Int) : (vSL sp us o x).length ≤ 3 := by unfold vSL; split <;> simp
theorem zJJ (sp : Sp) (x : Bool × Int × Int) : (zCe sp x).length ≤ 3 := by simp [zCe]
theorem zPb (us : List Nat) (o i : Nat) : zEl us o ((i + 1 : Nat) : Int) = zEl us o (i : Int) + (if hid us o (i : Int) = true then 1 else 0) := by
 unfold zEl
 rw [Int.toNat_natCast, Int.toNat_natCast, List.range_succ, List.map_append, List.filter_append, List.length_append]
 congr 1
 rw [List.map_cons, List.map_nil, List.filter_cons]
 split <;> rfl
theorem zSe (us : List Nat) (o i : Nat) : zEl us o (i : Int) ≤ i := by
 unfold zEl
 refine Nat.le_trans (List.length_filter_le _ _) ?_
 simp
theorem zKf (l : List (Bool × Int × Int)) (n : Nat) : (zg l).take n = zg (l.take n) := by simp [zg]
theorem zPf (l : List (Bool × Int × Int)) (n : Nat) : (zg l).drop n = zg (l.drop n) := by simp [zg]
theorem zUH {P : Program} {fn : Func} {st : St} {q : VQ} {L : List Int} (hr : fn.results = #[]) (h0 : zAZ st.σ 0 = .ent (mkP q 1 L)) (h1 : zAZ st.σ 1 = zBN L) : zJn P fn 2 (.tup []) [.ent (mkP q 1 L), zBN L] .ret st :=
 ⟨.inr rfl, [0, 1], True, .tup [], by unfold zHn; rw [hr]; rfl, trivial, by decide, fun k hk => by match k, hk with | 0, _ => rfl | 1, _ => rfl, zv h0 h1 rfl, zK _⟩
structure VIn2 (n : Nat) (a b : Sta) : Prop where
 cn : b.code.length ≤ 50
 mn : b.mem.length ≤ 50
 sn : b.stack.length ≤ 50
 cl : ∀ x ∈ b.code, x.1 = 1 → zx n x.2.2 = false
 ml : ∀ x ∈ b.mem, zx n x.2 = false
 sl : ∀ x ∈ b.stack, zx n x.2.2 = false
 al : zx n a.l = false
 bl : zx n b.l = false
theorem zNi (q : VQ) (hq : VOk q) (hul : q.us.length ≤ 100) (f1 f2 f3 f4 g1 g2 g3 g4 : Bool) (a b : Sta) (hab : VIn2 q.us.length a b) :
  Fn Tryz.prog 80 [.ptr 0 0 0, .agg (zAO f1 f2 f3 f4 a), .agg (zAO g1 g2 g3 g4 b)] [.ent (mkP q 1 []), .free] (.tup []) [.ent (mkP q 1 (zAg q.sp q.us q.o a b)), zBN (zAg q.sp q.us q.o a b)] := by
 obtain ⟨h1, h2, h3, hcL, hmL, hsL, haL, hbL⟩ := hab
 simp only [zAO]
 refine Fn.of (fn := Tryz.f80) (by kernel_rfl) rfl (by kernel_rfl) ⟨[.ptr 0 0 0, .agg [.v (.int .i64 a.v), .v (.int .i64 a.l), .sl f1 3 (zo a.code), .sl f2 2 (za a.mem), .sl f3 3 (zg a.stack), .sl f4 2 (za a.out)], .agg [.v (.int .i64 b.v), .v (.int .i64 b.l), .sl g1 3 (zo b.code), .sl g2 2 (za b.mem), .sl g3 3 (zg b.stack), .sl g4 2 (za b.out)], .v undef, .v undef, .v undef, .v undef, .v undef, .v undef, .v undef, .v undef, .v undef, .v undef, .v undef, .v undef, .v undef, .v undef, .v undef, .v undef, .v undef, .v undef, .v undef, .v undef, .v undef, .v undef, .v undef, .v undef, .v undef, .v undef, .v undef, .v undef, .v undef, .v undef, .v undef, .v undef, .v undef, .v undef, .v undef, .v undef, .v undef, .v undef, .v undef, .v undef, .v undef, .v undef, .v undef, .v undef, .v undef, .v undef, .v undef, .v undef, .v undef, .v undef, .v undef, .v undef, .v undef, .v undef, .v undef, .v undef, .v undef, .v undef, .v undef, .v undef, .v undef, .v undef, .v undef, .v undef, .v undef, .v undef, .v undef, .v undef, .v undef, .v undef, .v undef, .v undef, .v undef, .v undef, .v undef, .v undef, .v undef, .v undef, .v undef, .v undef, .v undef, .v undef, .v undef, .v undef, .v undef, .v undef, .v undef, .v undef, .v undef, .v undef, .v undef, .v undef, .v undef, .v undef, .v undef, .v undef, .v undef, .v undef, .v undef, .v undef, .v undef, .v undef, .v undef, .v undef, .v undef, .v undef, .v undef, .v undef, .v undef, .v undef, .v undef, .v undef, .v undef, .v undef, .v undef, .v undef, .v undef, .v undef, .v undef, .v undef, .v undef, .v undef, .v undef, .v undef, .v undef, .v undef, .v undef, .v undef, .v undef, .v undef, .v undef, .v undef, .v undef, .v undef, .v undef, .v undef, .v undef, .v undef, .v undef, .v undef, .v undef, .v undef, .v undef, .v undef, .v undef], [.ent (mkP q 1 []), .free]⟩ rfl ?_
 simp only [mkP]
 repeat' first | (with_reducible first | refine zA ?_ | refine zB ?_ | refine zI ?_) | ((with_reducible refine zC fun KC J hJ hKC => ?_); simp (maxSteps := 9999999) only [push_cast, seval, ↓reduceIte]) | ((with_reducible refine hJ _ _ ?_); clear hJ hKC KC J)
 refine zw 4 (γ := {i : Nat // i ≤ (b.code).length}) (fun i => ⟨[.ptr 0 0 0, .any, .any, .any, .ptr 2 0 0, .ptr 3 0 0, .any, .any, .any, .any, .any, .any, .any, .any, .any, .any, .any, .any, .any, .any, .any, .sl g1 3 (zo (b.code)), .v (.int .i64 (b.code).length), .v (.int .i64 i.1), .any, .any, .any, .any, .any, .any, .any, .any, .any, .any, .any, .any, .any, .any, .any, .any, .any, .any, .any, .any, .any, .any, .any, .any, .any, .any, .any, .any, .any, .any, .any, .any, .any, .any, .any, .any, .any, .any, .any, .any, .any, .any, .any, .any, .any, .any, .any, .any, .any, .any, .any, .any, .any, .any, .any, .any, .any, .any, .any, .any, .any, .any, .any, .any, .any, .any, .any, .any, .any, .any, .any, .any, .any, .any, .any, .any, .any, .any, .any, .any, .any, .any, .any, .any, .any, .any, .any, .any, .any, .any, .any, .any, .any, .any, .any, .any, .any, .any, .any, .any, .any, .any, .any, .any, .any, .any, .any, .any, .any, .any, .any, .any, .any, .any, .any, .any, .any, .any, .any, .any, .any, .any, .any, .any], [.ent (mkP q 1 (((b.code).take i.1).flatMap (vIL q.sp q.us q.o))), zBN (((b.code).take i.1).flatMap (vIL q.sp q.us q.o)), .ent ⟨0, none, 39, [.v (.int .i64 a.v), .v (.int .i64 a.l), .sl f1 3 (zo a.code), .sl f2 2 (za a.mem), .sl f3 3 (zg a.stack), .sl f4 2 (za a.out)], .cells⟩, .ent ⟨0, none, 39, [.v (.int .i64 b.v), .v (.int .i64 b.l), .sl g1 3 (zo b.code), .sl g2 2 (za b.mem), .sl g3 3 (zg b.stack), .sl g4 2 (za b.out)], .cells⟩]⟩) (fun i => (b.code).length - i.1) ⟨0, by omega⟩ (fun i => rfl) (fun i => ?_) (fun i => rfl) ⟨?_, ?_⟩ ?_
 ·refine zAF ?_
  simp only [List.map_cons, List.map_nil, zAX, zBn, zCG, zDK, zDY, show mOf (List.range 4) 1 = some 1 from rfl, zBV]
  rfl
 ·exact Lq
 ·simp only [List.take_zero, List.flatMap_nil, List.append_nil]
  exact Fq
 rintro ⟨i, hi⟩
 dsimp only
 by_cases hlt : (i : Int) < ((b.code).length : Int)
 ·have hx : (b.code)[i]? = some (b.code)[i] := List.getElem?_eq_getElem (by omega)
  obtain ⟨x, hx0⟩ : ∃ x, (b.code)[i] = x := ⟨_, rfl⟩
  rw [hx0] at hx
  have hst : ((b.code).take (i + 1)).flatMap (vIL q.sp q.us q.o) = (((b.code).take i).flatMap (vIL q.sp q.us q.o)) ++ vIL q.sp q.us q.o x := by rw [zCM hx]
  have hwn := zp (i := i) (n := (b.code).length) (by omega) (by omega)
  have hLl : (((b.code).take i).flatMap (vIL q.sp q.us q.o)).length ≤ 150 := by
   have hb := zAY (zNx q.sp q.us q.o) ((b.code).take i)
   rw [List.length_take] at hb
   skip
   omega
  have hlab := hcL x (List.mem_of_getElem? hx)
  obtain ⟨L, hL⟩ : ∃ L, ((b.code).take i).flatMap (vIL q.sp q.us q.o) = L := ⟨_, rfl⟩
  rw [hL] at hst hLl ⊢
  obtain ⟨p, v, c⟩ := x
  have hge := zCj hx
  simp only at hge hlab
  by_cases e1 : p = 1
  ·have e1' : (p == 1) = true := by simpa using e1
   have hh := zCn q hq L c (hlab e1)
   obtain ⟨hb, hhb⟩ : ∃ b, hid q.us q.o c = b := ⟨_, rfl⟩
   rw [hhb] at hh
   cases hb
   case false =>
    rw [show vIL q.sp q.us q.o (p, v, c) = [] by unfold vIL; rw [if_neg (by rw [hhb]; simp)]] at hst
    have hnew : L ++ [] = L := by simp only [List.append_assoc, List.cons_append, List.nil_append, List.append_nil]
    rw [hnew] at hst
    simp only [mkP] at hh ⊢
    repeat' first | (with_reducible first | refine zA ?_ | refine zB ?_ | refine zP ?_ | refine zJ ?_ | refine zI ?_) | ((with_reducible refine And.intro ?_ ?_); · exact Sq) | ((first | with_reducible refine zC fun KC J hJ hKC => ?_ | (refine hKC _ _ _ _ _ (zT [0, 1] hh rfl rfl rfl (by decide) (by simp) rfl (zv rfl rfl rfl) Lq ?_))); simp (maxSteps := 9999999) only [push_cast, seval, ↓reduceIte, hlt, hge, hwn, e1', undef, List.cons_append, List.nil_append, zAT, mOf, idx]) | ((with_reducible refine hJ _ _ ?_); clear hJ hKC KC J) | ((with_reducible refine zG ?_ ?_); · rfl) | ((with_reducible refine zH ?_ ?_); · rfl)
    refine ⟨⟨i + 1, by omega⟩, by simp only; omega, ?_, ?_⟩
    ·exact Lq
    ·simp only [hst]; exact ⟨_, rfl⟩
   case true =>
    rw [show vIL q.sp q.us q.o (p, v, c) = [zCS q.sp v] by unfold vIL; rw [if_pos ⟨e1, hhb⟩]] at hst
    have t1 := zDS q L v (by omega)
    obtain ⟨L1, hL1⟩ : ∃ l, L ++ [zCS q.sp v] = l := ⟨_, rfl⟩
    have lL1 : L1.length = L.length + 1 := by rw [← hL1]; simp
    rw [hL1] at t1
    have hnew : L ++ [zCS q.sp v] = L1 := by rw [← hL1]; try simp only [List.append_assoc, List.cons_append, List.nil_append, List.append_nil]
    rw [hnew] at hst
    simp only [mkP] at t1 hh ⊢
    repeat' first | (with_reducible first | refine zA ?_ | refine zB ?_ | refine zP ?_ | refine zJ ?_ | refine zI ?_) | ((with_reducible refine And.intro ?_ ?_); · exact Sq) | ((first | with_reducible refine zC fun KC J hJ hKC => ?_ | (refine hKC _ _ _ _ _ (zT [0, 1] hh rfl rfl rfl (by decide) (by simp) rfl (zv rfl rfl rfl) Lq ?_)) | (refine hKC _ _ _ _ _ (zT [0, 1] t1 rfl rfl rfl (by decide) (by simp) rfl (zv rfl rfl rfl) Lq ?_))); simp (maxSteps := 9999999) only [push_cast, seval, ↓reduceIte, hlt, hge, hwn, e1', undef, List.cons_append, List.nil_append, zAT, mOf, idx]) | ((with_reducible refine hJ _ _ ?_); clear hJ hKC KC J) | ((with_reducible refine zG ?_ ?_); · rfl)
    refine ⟨⟨i + 1, by omega⟩, by simp only; omega, ?_, ?_⟩
    ·exact Lq
    ·simp only [hst]; exact ⟨_, rfl⟩
  ·have e1' : (p == 1) = false := by simpa using e1
   rw [show vIL q.sp q.us q.o (p, v, c) = [] by unfold vIL; rw [if_neg (fun h => e1 h.1)]] at hst
   have hnew : L ++ [] = L := by simp only [List.append_assoc, List.cons_append, List.nil_append, List.append_nil]
   rw [hnew] at hst
   simp only [mkP]
   repeat' first | (with_reducible first | refine zA ?_ | refine zB ?_ | refine zP ?_ | refine zJ ?_ | refine zI ?_) | ((with_reducible refine And.intro ?_ ?_); · exact Sq) | ((with_reducible refine zC fun KC J hJ hKC => ?_); simp (maxSteps := 9999999) only [push_cast, seval, ↓reduceIte, hlt, hge, hwn, e1', undef, List.cons_append, List.nil_append, zAT, mOf, idx]) | ((with_reducible refine hJ _ _ ?_); clear hJ hKC KC J) | ((with_reducible refine zG ?_ ?_); · rfl) | ((with_reducible refine zH ?_ ?_); · rfl)
   refine ⟨⟨i + 1, by omega⟩, by simp only; omega, ?_, ?_⟩
   ·exact Lq
   ·simp only [hst]; exact ⟨_, rfl⟩
 have hin : i = (b.code).length := by omega
 have hend : ((b.code).take i).flatMap (vIL q.sp q.us q.o) = (b.code).flatMap (vIL q.sp q.us q.o) := by rw [hin, List.take_length]
 rw [hend]
 obtain ⟨A1, hA1⟩ : ∃ l, (b.code).flatMap (vIL q.sp q.us q.o) = l := ⟨_, rfl⟩
 have lA1 : A1.length ≤ 150 := by
  have hb := zAY (zNx q.sp q.us q.o) (b.code)
  rw [← hA1]; (try simp only [List.length_take] at hb); omega
 rw [hA1]
 simp only [mkP]
 repeat' first | (with_reducible first | refine zA ?_ | refine zB ?_ | refine zm ?_ | refine zl ?_ | refine zZ ?_ | refine zI ?_) | ((with_reducible refine zC fun KC J hJ hKC => ?_); simp (maxSteps := 9999999) only [push_cast, seval, ↓reduceIte, hlt, Int.lt_irrefl]) | ((with_reducible refine hJ _ _ ?_); clear hJ hKC KC J) | ((with_reducible refine zH ?_ ?_); · rfl)
 refine zw 4 (γ := {i : Nat // i ≤ (b.mem).length}) (fun i => ⟨[.ptr 0 0 0, .any, .any, .any, .ptr 2 0 0, .ptr 3 0 0, .any, .any, .any, .any, .any, .any, .any, .any, .any, .any, .any, .any, .any, .any, .any, .any, .any, .any, .any, .any, .any, .any, .any, .any, .any, .any, .any, .any, .any, .any, .any, .any, .any, .any, .any, .any, .sl g2 2 (za (b.mem)), .v (.int .i64 (b.mem).length), .v (.int .i64 i.1), .any, .any, .any, .any, .any, .any, .any, .any, .any, .any, .any, .any, .any, .any, .any, .any, .any, .any, .any, .any, .any, .any, .any, .any, .any, .any, .any, .any, .any, .any, .any, .any, .any, .any, .any, .any, .any, .any, .any, .any, .any, .any, .any, .any, .any, .any, .any, .any, .any, .any, .any, .any, .any, .any, .any, .any, .any, .any, .any, .any, .any, .any, .any, .any, .any, .any, .any, .any, .any, .any, .any, .any, .any, .any, .any, .any, .any, .any, .any, .any, .any, .any, .any, .any, .any, .any, .any, .any, .any, .any, .any, .any, .any, .any, .any, .any, .any, .any, .any, .any, .any, .any, .any], [.ent (mkP q 1 (A1 ++ ((b.mem).take i.1).flatMap (vAL q.sp q.us q.o))), zBN (A1 ++ ((b.mem).take i.1).flatMap (vAL q.sp q.us q.o)), .ent ⟨0, none, 39, [.v (.int .i64 a.v), .v (.int .i64 a.l), .sl f1 3 (zo a.code), .sl f2 2 (za a.mem), .sl f3 3 (zg a.stack), .sl f4 2 (za a.out)], .cells⟩, .ent ⟨0, none, 39, [.v (.int .i64 b.v), .v (.int .i64 b.l), .sl g1 3 (zo b.code), .sl g2 2 (za b.mem), .sl g3 3 (zg b.stack), .sl g4 2 (za b.out)], .cells⟩]⟩) (fun i => (b.mem).length - i.1) ⟨0, by omega⟩ (fun i => rfl) (fun i => ?_) (fun i => rfl) ⟨?_, ?_⟩ ?_
 ·refine zAF ?_
  simp only [List.map_cons, List.map_nil, zAX, zBn, zCG, zDK, zDY, show mOf (List.range 4) 1 = some 1 from rfl, zBV]
  rfl
 ·exact Lq
 ·simp only [List.take_zero, List.flatMap_nil, List.append_nil]
  exact Fq
 rintro ⟨i, hi⟩
 dsimp only
 by_cases hlt : (i : Int) < ((b.mem).length : Int)
 ·have hx : (b.mem)[i]? = some (b.mem)[i] := List.getElem?_eq_getElem (by omega)
  obtain ⟨x, hx0⟩ : ∃ x, (b.mem)[i] = x := ⟨_, rfl⟩
  rw [hx0] at hx
  have hst : A1 ++ ((b.mem).take (i + 1)).flatMap (vAL q.sp q.us q.o) = (A1 ++ ((b.mem).take i).flatMap (vAL q.sp q.us q.o)) ++ vAL q.sp q.us q.o x := by rw [zCM hx, List.append_assoc]
  have hwn := zp (i := i) (n := (b.mem).length) (by omega) (by omega)
  have hLl : (A1 ++ ((b.mem).take i).flatMap (vAL q.sp q.us q.o)).length ≤ 300 := by
   have hb := zAY (zNo q.sp q.us q.o) ((b.mem).take i)
   rw [List.length_take] at hb
   rw [List.length_append]
   omega
  have hlab := hmL x (List.mem_of_getElem? hx)
  obtain ⟨L, hL⟩ : ∃ L, A1 ++ ((b.mem).take i).flatMap (vAL q.sp q.us q.o) = L := ⟨_, rfl⟩
  rw [hL] at hst hLl ⊢
  obtain ⟨v, c⟩ := x
  have hge := zBh hx
  simp only at hge hlab
  have hh := zCn q hq L c hlab
  obtain ⟨hb, hhb⟩ : ∃ b, hid q.us q.o c = b := ⟨_, rfl⟩
  rw [hhb] at hh
  cases hb
  case false =>
   rw [show vAL q.sp q.us q.o (v, c) = [] by unfold vAL; rw [if_neg (by rw [hhb]; simp)]] at hst
   have hnew : L ++ [] = L := by simp only [List.append_assoc, List.cons_append, List.nil_append, List.append_nil]
   rw [hnew] at hst
   simp only [mkP] at hh ⊢
   repeat' first | (with_reducible first | refine zA ?_ | refine zB ?_ | refine zP ?_ | refine zJ ?_ | refine zI ?_) | ((with_reducible refine And.intro ?_ ?_); · exact Sq) | ((first | with_reducible refine zC fun KC J hJ hKC => ?_ | (refine hKC _ _ _ _ _ (zT [0, 1] hh rfl rfl rfl (by decide) (by simp) rfl (zv rfl rfl rfl) Lq ?_))); simp (maxSteps := 9999999) only [push_cast, seval, ↓reduceIte, hlt, hge, hwn, undef, List.cons_append, List.nil_append, zAT, mOf, idx]) | ((with_reducible refine hJ _ _ ?_); clear hJ hKC KC J) | ((with_reducible refine zG ?_ ?_); · rfl) | ((with_reducible refine zH ?_ ?_); · rfl)
   refine ⟨⟨i + 1, by omega⟩, by simp only; omega, ?_, ?_⟩
   ·exact Lq
   ·simp only [hst]; exact ⟨_, rfl⟩
  case true =>
   rw [show vAL q.sp q.us q.o (v, c) = [zCS q.sp v] by unfold vAL; rw [if_pos hhb]] at hst
   have t1 := zDS q L v (by omega)
   obtain ⟨L1, hL1⟩ : ∃ l, L ++ [zCS q.sp v] = l := ⟨_, rfl⟩
   have lL1 : L1.length = L.length + 1 := by rw [← hL1]; simp
   rw [hL1] at t1
   have hnew : L ++ [zCS q.sp v] = L1 := by rw [← hL1]; try simp only [List.append_assoc, List.cons_append, List.nil_append, List.append_nil]
   rw [hnew] at hst
   simp only [mkP] at t1 hh ⊢
   repeat' first | (with_reducible first | refine zA ?_ | refine zB ?_ | refine zP ?_ | refine zJ ?_ | refine zI ?_) | ((with_reducible refine And.intro ?_ ?_); · exact Sq) | ((first | with_reducible refine zC fun KC J hJ hKC => ?_ | (refine hKC _ _ _ _ _ (zT [0, 1] hh rfl rfl rfl (by decide) (by simp) rfl (zv rfl rfl rfl) Lq ?_)) | (refine hKC _ _ _ _ _ (zT [0, 1] t1 rfl rfl rfl (by decide) (by simp) rfl (zv rfl rfl rfl) Lq ?_))); simp (maxSteps := 9999999) only [push_cast, seval, ↓reduceIte, hlt, hge, hwn, undef, List.cons_append, List.nil_append, zAT, mOf, idx]) | ((with_reducible refine hJ _ _ ?_); clear hJ hKC KC J) | ((with_reducible refine zG ?_ ?_); · rfl)
   refine ⟨⟨i + 1, by omega⟩, by simp only; omega, ?_, ?_⟩
   ·exact Lq
   ·simp only [hst]; exact ⟨_, rfl⟩
 have hin : i = (b.mem).length := by omega
 have hend : A1 ++ ((b.mem).take i).flatMap (vAL q.sp q.us q.o) = A1 ++ (b.mem).flatMap (vAL q.sp q.us q.o) := by rw [hin, List.take_length]
 rw [hend]
 obtain ⟨A2, hA2⟩ : ∃ l, A1 ++ (b.mem).flatMap (vAL q.sp q.us q.o) = l := ⟨_, rfl⟩
 have lA2 : A2.length ≤ 300 := by
  have hb := zAY (zNo q.sp q.us q.o) (b.mem)
  rw [← hA2, List.length_append]; (try simp only [List.length_take] at hb); omega
 rw [hA2]
 have u1 := zCn q hq A2 a.l haL
 obtain ⟨hi2, hhi⟩ : ∃ b, hid q.us q.o a.l = b := ⟨_, rfl⟩
 rw [hhi] at u1
 cases hi2
 case false =>
  have hfin : zAg q.sp q.us q.o a b = A2 ++ b.stack.flatMap (vSL q.sp q.us q.o) := by
   unfold zAg; rw [if_neg (by rw [hhi]; simp), ← hA2, ← hA1, List.append_assoc]
  rw [hfin]
  have htk : b.stack.take b.stack.length = b.stack := List.take_length
  simp only [mkP] at u1 ⊢
  repeat' first | (with_reducible first | refine zA ?_ | refine zB ?_ | refine zm ?_ | refine zl ?_ | refine zJ ?_ | refine zZ ?_ | refine zI ?_) | ((with_reducible refine And.intro ?_ ?_); · exact Sq) | ((first | with_reducible refine zC fun KC J hJ hKC => ?_ | (refine hKC _ _ _ _ _ (zT [0, 1] u1 rfl rfl rfl (by decide) (by simp) rfl (zv rfl rfl rfl) Lq ?_))); simp (maxSteps := 9999999) only [push_cast, seval, ↓reduceIte, hlt, Int.lt_irrefl, List.cons_append, List.nil_append, zAT, mOf, idx, Int.toNat_natCast, zKf, htk]) | ((with_reducible refine hJ _ _ ?_); clear hJ hKC KC J) | ((with_reducible refine zH ?_ ?_); · rfl)
  refine zw 4 (γ := {i : Nat // i ≤ (b.stack).length}) (fun i => ⟨[.ptr 0 0 0, .any, .any, .any, .ptr 2 0 0, .ptr 3 0 0, .any, .any, .any, .any, .any, .v (.bool false), .any, .any, .any, .any, .any, .any, .any, .any, .any, .any, .any, .any, .any, .any, .any, .any, .any, .any, .any, .any, .any, .any, .any, .any, .any, .any, .any, .any, .any, .any, .any, .any, .any, .any, .any, .any, .any, .any, .any, .any, .any, .any, .any, .any, .any, .any, .any, .any, .any, .any, .any, .any, .any, .any, .any, .any, .any, .any, .any, .any, .any, .any, .any, .any, .any, .any, .any, .any, .any, .any, .any, .any, .any, .sl false 3 (zg (b.stack)), .v (.int .i64 (b.stack).length), .v (.int .i64 i.1), .any, .any, .any, .any, .any, .any, .any, .any, .any, .any, .any, .any, .any, .any, .any, .any, .any, .any, .any, .any, .any, .any, .any, .any, .any, .any, .any, .any, .any, .any, .any, .any, .any, .any, .any, .any, .any, .any, .any, .any, .any, .any, .any, .any, .any, .any, .any, .any, .any, .any, .any, .any, .any, .any, .any, .any, .any, .any, .any, .any], [.ent (mkP q 1 (A2 ++ ((b.stack).take i.1).flatMap (vSL q.sp q.us q.o))), zBN (A2 ++ ((b.stack).take i.1).flatMap (vSL q.sp q.us q.o)), .ent ⟨0, none, 39, [.v (.int .i64 a.v), .v (.int .i64 a.l), .sl f1 3 (zo a.code), .sl f2 2 (za a.mem), .sl f3 3 (zg a.stack), .sl f4 2 (za a.out)], .cells⟩, .ent ⟨0, none, 39, [.v (.int .i64 b.v), .v (.int .i64 b.l), .sl g1 3 (zo b.code), .sl g2 2 (za b.mem), .sl g3 3 (zg b.stack), .sl g4 2 (za b.out)], .cells⟩]⟩) (fun i => (b.stack).length - i.1) ⟨0, by omega⟩ (fun i => rfl) (fun i => ?_) (fun i => rfl) ⟨?_, ?_⟩ ?_
  ·refine zAF ?_
   simp only [List.map_cons, List.map_nil, zAX, zBn, zCG, zDK, zDY, show mOf (List.range 4) 1 = some 1 from rfl, zBV]
   rfl
  ·exact Lq
  ·simp only [List.take_zero, List.flatMap_nil, List.append_nil]
   exact Fq
  rintro ⟨i, hi⟩
  dsimp only
  by_cases hlt : (i : Int) < ((b.stack).length : Int)
  ·have hx : (b.stack)[i]? = some (b.stack)[i] := List.getElem?_eq_getElem (by omega)
   obtain ⟨x, hx0⟩ : ∃ x, (b.stack)[i] = x := ⟨_, rfl⟩
   rw [hx0] at hx
   have hst : A2 ++ ((b.stack).take (i + 1)).flatMap (vSL q.sp q.us q.o) = (A2 ++ ((b.stack).take i).flatMap (vSL q.sp q.us q.o)) ++ vSL q.sp q.us q.o x := by rw [zCM hx, List.append_assoc]
   have hwn := zp (i := i) (n := (b.stack).length) (by omega) (by omega)
   have hLl : (A2 ++ ((b.stack).take i).flatMap (vSL q.sp q.us q.o)).length ≤ 450 := by
    have hb := zAY (zHP q.sp q.us q.o) ((b.stack).take i)
    rw [List.length_take] at hb
    rw [List.length_append]
    omega
   have hlab := hsL x (List.mem_of_getElem? hx)
   obtain ⟨L, hL⟩ : ∃ L, A2 ++ ((b.stack).take i).flatMap (vSL q.sp q.us q.o) = L := ⟨_, rfl⟩
   rw [hL] at hst hLl ⊢
   obtain ⟨r, v, c⟩ := x
   have hge := zBi hx
   simp only at hge hlab
   have hh := zCn q hq L c hlab
   obtain ⟨hb, hhb⟩ : ∃ b, hid q.us q.o c = b := ⟨_, rfl⟩
   rw [hhb] at hh
   cases hb
   case false =>
    rw [show vSL q.sp q.us q.o (r, v, c) = [] by unfold vSL; rw [if_neg (by rw [hhb]; simp)]] at hst
    have hnew : L ++ [] = L := by simp only [List.append_assoc, List.cons_append, List.nil_append, List.append_nil]
    rw [hnew] at hst
    simp only [mkP] at hh ⊢
    repeat' first | (with_reducible first | refine zA ?_ | refine zB ?_ | refine zP ?_ | refine zJ ?_ | refine zI ?_) | ((with_reducible refine And.intro ?_ ?_); · exact Sq) | ((first | with_reducible refine zC fun KC J hJ hKC => ?_ | (refine hKC _ _ _ _ _ (zT [0, 1] hh rfl rfl rfl (by decide) (by simp) rfl (zv rfl rfl rfl) Lq ?_))); simp (maxSteps := 9999999) only [push_cast, seval, ↓reduceIte, hlt, hge, hwn, undef, List.cons_append, List.nil_append, zAT, mOf, idx]) | ((with_reducible refine hJ _ _ ?_); clear hJ hKC KC J) | ((with_reducible refine zG ?_ ?_); · rfl) | ((with_reducible refine zH ?_ ?_); · rfl)
    refine ⟨⟨i + 1, by omega⟩, by simp only; omega, ?_, ?_⟩
    ·exact Lq
    ·simp only [hst]; exact ⟨_, rfl⟩
   case true =>
    rw [show vSL q.sp q.us q.o (r, v, c) = [zCH q.sp (r, v, c)] by unfold vSL; rw [if_pos hhb]] at hst
    have t1 := zFR q L (r, v, c) (by omega)
    obtain ⟨L1, hL1⟩ : ∃ l, L ++ [zCH q.sp (r, v, c)] = l := ⟨_, rfl⟩
    have lL1 : L1.length = L.length + 1 := by rw [← hL1]; simp
    rw [hL1] at t1
    have hnew : L ++ [zCH q.sp (r, v, c)] = L1 := by rw [← hL1]; try simp only [List.append_assoc, List.cons_append, List.nil_append, List.append_nil]
    rw [hnew] at hst
    simp only [mkP] at t1 hh ⊢
    repeat' first | (with_reducible first | refine zA ?_ | refine zB ?_ | refine zP ?_ | refine zJ ?_ | refine zI ?_) | ((with_reducible refine And.intro ?_ ?_); · exact Sq) | ((first | with_reducible refine zC fun KC J hJ hKC => ?_ | (refine hKC _ _ _ _ _ (zT [0, 1] hh rfl rfl rfl (by decide) (by simp) rfl (zv rfl rfl rfl) Lq ?_)) | (refine hKC _ _ _ _ _ (zT [0, 1] t1 rfl rfl rfl (by decide) (by simp) rfl (zv rfl rfl rfl) Lq ?_))); simp (maxSteps := 9999999) only [push_cast, seval, ↓reduceIte, hlt, hge, hwn, undef, List.cons_append, List.nil_append, zAT, mOf, idx]) | ((with_reducible refine hJ _ _ ?_); clear hJ hKC KC J) | ((with_reducible refine zG ?_ ?_); · rfl)
    refine ⟨⟨i + 1, by omega⟩, by simp only; omega, ?_, ?_⟩
    ·exact Lq
    ·simp only [hst]; exact ⟨_, rfl⟩
  have hin : i = (b.stack).length := by omega
  have hend : A2 ++ ((b.stack).take i).flatMap (vSL q.sp q.us q.o) = A2 ++ (b.stack).flatMap (vSL q.sp q.us q.o) := by rw [hin, List.take_length]
  rw [hend]
  obtain ⟨A3, hA3⟩ : ∃ l, A2 ++ (b.stack).flatMap (vSL q.sp q.us q.o) = l := ⟨_, rfl⟩
  have lA3 : A3.length ≤ 450 := by
   have hb := zAY (zHP q.sp q.us q.o) (b.stack)
   rw [← hA3, List.length_append]; (try simp only [List.length_take] at hb); omega
  rw [hA3]
  simp only [mkP]
  repeat' first | (with_reducible first | refine zA ?_ | refine zB ?_ | refine zm ?_ | refine zl ?_ | refine zZ ?_) | ((with_reducible refine zC fun KC J hJ hKC => ?_); simp (maxSteps := 9999999) only [push_cast, seval, ↓reduceIte, hlt, Int.lt_irrefl]) | ((with_reducible refine hJ _ _ ?_); clear hJ hKC KC J) | ((with_reducible refine zG ?_ ?_); · rfl) | ((with_reducible refine zH ?_ ?_); · rfl)
  refine zF ?_
  exact zUH rfl rfl rfl
 case true =>
  obtain ⟨k, hk⟩ : ∃ k, (zu q.us q.o b.stack).length = k := ⟨_, rfl⟩
  have hcrop := zDf q.f q.g g3 q.ns q.us (q.o : Int) b.stack hq.szs hq.u32 (by omega)
  rw [zCp hq.chk hsL (zAG.2 ⟨by omega, by have := hq.lab; omega⟩), zEs hq.chk hsL (zAG.2 ⟨by omega, by have := hq.lab; omega⟩)] at hcrop
  have hcr : zu q.us q.o b.stack = b.stack.take k := by rw [← hk]; unfold zu; rw [List.length_take, Nat.min_eq_left (zGf _ _)]
  have hkl : k ≤ b.stack.length := by rw [← hk]; unfold zu; rw [List.length_take]; omega
  have hrl : (zg (zu q.us q.o b.stack)).length = k := by simp [zg, hk]
  obtain ⟨CR, hCR⟩ : ∃ r, zg (zu q.us q.o b.stack) = r := ⟨_, rfl⟩
  rw [hCR] at hcrop hrl
  have htl : (b.stack.take k).length = k := by rw [List.length_take]; omega
  have hsT : ∀ x ∈ b.stack.take k, zx q.us.length x.2.2 = false := fun x hx => hsL x (List.mem_of_mem_take hx)
  have hsD : ∀ x ∈ b.stack.drop k, zx q.us.length x.2.2 = false := fun x hx => hsL x (List.mem_of_mem_drop hx)
  have hdl : (b.stack.drop k).length = b.stack.length - k := List.length_drop
  have hfin : zAg q.sp q.us q.o a b = ((((A2 ++ (b.stack.take k).flatMap (vSL q.sp q.us q.o)) ++ [(b.stack.length : Int) - (k : Int)]) ++ (b.stack.drop k).flatMap (zCe q.sp)) ++ [b.v]) ++ [(zEl q.us q.o b.l : Int)] := by
   unfold zAg; rw [if_pos hhi, hk, hcr, ← hA2, ← hA1]; simp only [List.append_assoc, List.cons_append, List.nil_append]
  rw [hfin]
  have hle1 : ¬ ((k : Int) < 0) := by omega
  have hle2 : ((k : Int) ≤ (b.stack.length : Int)) = True := eq_true (by omega)
  simp only [mkP] at u1 ⊢
  repeat' first | (with_reducible first | refine zA ?_ | refine zB ?_ | refine zm ?_ | refine zl ?_ | refine zZ ?_ | refine zI ?_) | ((with_reducible refine And.intro ?_ ?_); · exact Sq) | ((first | with_reducible refine zC fun KC J hJ hKC => ?_ | with_reducible refine zY rfl fun KC J hJ hKC => ?_ | (refine hKC _ _ _ _ _ (zT [0, 1] u1 rfl rfl rfl (by decide) (by simp) rfl (zv rfl rfl rfl) Lq ?_)) | (refine hKC _ _ _ _ _ (zD (hcrop) rfl rfl rfl ?_ ?_); (· exact Lq))); simp (maxSteps := 9999999) only [push_cast, seval, ↓reduceIte, hlt, Int.lt_irrefl, hrl, hle2, List.cons_append, List.nil_append, zAT, mOf, idx, Int.toNat_natCast, zKf]) | ((first | with_reducible refine hJ _ _ ?_ | (with_reducible refine hJ _ _ ?_ ?_; · kernel_rfl)); clear hJ hKC KC J) | ((with_reducible refine zG ?_ ?_); · rfl) | ((with_reducible refine zH ?_ ?_); · rfl)
  refine zw 4 (γ := {i : Nat // i ≤ (b.stack.take k).length}) (fun i => ⟨[.ptr 0 0 0, .any, .any, .any, .ptr 2 0 0, .ptr 3 0 0, .any, .any, .any, .any, .v (.int .i64 (k : Int)), .v (.bool true), .any, .any, .any, .any, .any, .any, .any, .any, .any, .any, .any, .any, .any, .any, .any, .any, .any, .any, .any, .any, .any, .any, .any, .any, .any, .any, .any, .any, .any, .any, .any, .any, .any, .any, .any, .any, .any, .any, .any, .any, .any, .any, .any, .any, .any, .any, .any, .any, .any, .any, .any, .any, .any, .any, .any, .any, .any, .any, .any, .any, .any, .any, .any, .any, .any, .any, .any, .any, .any, .any, .any, .any, .any, .sl false 3 (zg (b.stack.take k)), .v (.int .i64 (b.stack.take k).length), .v (.int .i64 i.1), .any, .any, .any, .any, .any, .any, .any, .any, .any, .any, .any, .any, .any, .any, .any, .any, .any, .any, .any, .any, .any, .any, .any, .any, .any, .any, .any, .any, .any, .any, .any, .any, .any, .any, .any, .any, .any, .any, .any, .any, .any, .any, .any, .any, .any, .any, .any, .any, .any, .any, .any, .any, .any, .any, .any, .any, .any, .any, .any, .any], [.ent (mkP q 1 (A2 ++ ((b.stack.take k).take i.1).flatMap (vSL q.sp q.us q.o))), zBN (A2 ++ ((b.stack.take k).take i.1).flatMap (vSL q.sp q.us q.o)), .ent ⟨0, none, 39, [.v (.int .i64 a.v), .v (.int .i64 a.l), .sl f1 3 (zo a.code), .sl f2 2 (za a.mem), .sl f3 3 (zg a.stack), .sl f4 2 (za a.out)], .cells⟩, .ent ⟨0, none, 39, [.v (.int .i64 b.v), .v (.int .i64 b.l), .sl g1 3 (zo b.code), .sl g2 2 (za b.mem), .sl g3 3 (zg b.stack), .sl g4 2 (za b.out)], .cells⟩]⟩) (fun i => (b.stack.take k).length - i.1) ⟨0, by omega⟩ (fun i => rfl) (fun i => ?_) (fun i => rfl) ⟨?_, ?_⟩ ?_
  ·refine zAF ?_
   simp only [List.map_cons, List.map_nil, zAX, zBn, zCG, zDK, zDY, show mOf (List.range 4) 1 = some 1 from rfl, zBV]
   rfl
  ·exact Lq
  ·simp only [List.take_zero, List.flatMap_nil, List.append_nil]
   exact Fq
  rintro ⟨i, hi⟩
  dsimp only
  by_cases hlt : (i : Int) < ((b.stack.take k).length : Int)
  ·have hx : (b.stack.take k)[i]? = some (b.stack.take k)[i] := List.getElem?_eq_getElem (by omega)
   obtain ⟨x, hx0⟩ : ∃ x, (b.stack.take k)[i] = x := ⟨_, rfl⟩
   rw [hx0] at hx
   have hst : A2 ++ ((b.stack.take k).take (i + 1)).flatMap (vSL q.sp q.us q.o) = (A2 ++ ((b.stack.take k).take i).flatMap (vSL q.sp q.us q.o)) ++ vSL q.sp q.us q.o x := by rw [zCM hx, List.append_assoc]
   have hwn := zp (i := i) (n := (b.stack.take k).length) (by omega) (by omega)
   have hLl : (A2 ++ ((b.stack.take k).take i).flatMap (vSL q.sp q.us q.o)).length ≤ 450 := by
    have hb := zAY (zHP q.sp q.us q.o) ((b.stack.take k).take i)
    rw [List.length_take] at hb
    rw [List.length_append]
    omega
   have hlab := hsT x (List.mem_of_getElem? hx)
   obtain ⟨L, hL⟩ : ∃ L, A2 ++ ((b.stack.take k).take i).flatMap (vSL q.sp q.us q.o) = L := ⟨_, rfl⟩
   rw [hL] at hst hLl ⊢
   obtain ⟨r, v, c⟩ := x
   have hge := zBi hx
   simp only at hge hlab
   have hh := zCn q hq L c hlab
   obtain ⟨hb, hhb⟩ : ∃ b, hid q.us q.o c = b := ⟨_, rfl⟩
   rw [hhb] at hh
   cases hb
   case false =>
    rw [show vSL q.sp q.us q.o (r, v, c) = [] by unfold vSL; rw [if_neg (by rw [hhb]; simp)]] at hst
    have hnew : L ++ [] = L := by simp only [List.append_assoc, List.cons_append, List.nil_append, List.append_nil]
    rw [hnew] at hst
    simp only [mkP] at hh ⊢
    repeat' first | (with_reducible first | refine zA ?_ | refine zB ?_ | refine zP ?_ | refine zJ ?_ | refine zI ?_) | ((with_reducible refine And.intro ?_ ?_); · exact Sq) | ((first | with_reducible refine zC fun KC J hJ hKC => ?_ | (refine hKC _ _ _ _ _ (zT [0, 1] hh rfl rfl rfl (by decide) (by simp) rfl (zv rfl rfl rfl) Lq ?_))); simp (maxSteps := 9999999) only [push_cast, seval, ↓reduceIte, hlt, hge, hwn, undef, List.cons_append, List.nil_append, zAT, mOf, idx]) | ((with_reducible refine hJ _ _ ?_); clear hJ hKC KC J) | ((with_reducible refine zG ?_ ?_); · rfl) | ((with_reducible refine zH ?_ ?_); · rfl)
    refine ⟨⟨i + 1, by omega⟩, by simp only; omega, ?_, ?_⟩
    ·exact Lq
    ·simp only [hst]; exact ⟨_, rfl⟩
   case true =>
    rw [show vSL q.sp q.us q.o (r, v, c) = [zCH q.sp (r, v, c)] by unfold vSL; rw [if_pos hhb]] at hst
    have t1 := zFR q L (r, v, c) (by omega)
    obtain ⟨L1, hL1⟩ : ∃ l, L ++ [zCH q.sp (r, v, c)] = l := ⟨_, rfl⟩
    have lL1 : L1.length = L.length + 1 := by rw [← hL1]; simp
    rw [hL1] at t1
    have hnew : L ++ [zCH q.sp (r, v, c)] = L1 := by rw [← hL1]; try simp only [List.append_assoc, List.cons_append, List.nil_append, List.append_nil]
    rw [hnew] at hst
    simp only [mkP] at t1 hh ⊢
    repeat' first | (with_reducible first | refine zA ?_ | refine zB ?_ | refine zP ?_ | refine zJ ?_ | refine zI ?_) | ((with_reducible refine And.intro ?_ ?_); · exact Sq) | ((first | with_reducible refine zC fun KC J hJ hKC => ?_ | (refine hKC _ _ _ _ _ (zT [0, 1] hh rfl rfl rfl (by decide) (by simp) rfl (zv rfl rfl rfl) Lq ?_)) | (refine hKC _ _ _ _ _ (zT [0, 1] t1 rfl rfl rfl (by decide) (by simp) rfl (zv rfl rfl rfl) Lq ?_))); simp (maxSteps := 9999999) only [push_cast, seval, ↓reduceIte, hlt, hge, hwn, undef, List.cons_append, List.nil_append, zAT, mOf, idx]) | ((with_reducible refine hJ _ _ ?_); clear hJ hKC KC J) | ((with_reducible refine zG ?_ ?_); · rfl)
    refine ⟨⟨i + 1, by omega⟩, by simp only; omega, ?_, ?_⟩
    ·exact Lq
    ·simp only [hst]; exact ⟨_, rfl⟩
  have hin : i = (b.stack.take k).length := by omega
  have hend : A2 ++ ((b.stack.take k).take i).flatMap (vSL q.sp q.us q.o) = A2 ++ (b.stack.take k).flatMap (vSL q.sp q.us q.o) := by rw [hin, List.take_length]
  rw [hend]
  obtain ⟨A3, hA3⟩ : ∃ l, A2 ++ (b.stack.take k).flatMap (vSL q.sp q.us q.o) = l := ⟨_, rfl⟩
  have lA3 : A3.length ≤ 450 := by
   have hb := zAY (zHP q.sp q.us q.o) (b.stack.take k)
   rw [← hA3, List.length_append]; (try simp only [List.length_take] at hb); omega
  rw [hA3]
  have k1 := zAt q A3 ((b.stack.length : Int) - (k : Int)) (by omega)
  obtain ⟨A4, hA4⟩ : ∃ l, A3 ++ [(b.stack.length : Int) - (k : Int)] = l := ⟨_, rfl⟩
  have lA4 : A4.length = A3.length + 1 := by rw [← hA4]; simp
  have hsub : IntKind.i64.wrap ((b.stack.length : Int) - (k : Int)) = (b.stack.length : Int) - (k : Int) := by rw [IntKind.wrap_i64]; omega
  rw [hA4] at k1
  simp only [mkP, hA4] at k1 ⊢
  rw [htl] at hlt ⊢
  have htk : b.stack.take b.stack.length = b.stack := List.take_length
  repeat' first | (with_reducible first | refine zA ?_ | refine zB ?_ | refine zm ?_ | refine zl ?_ | refine zJ ?_ | refine zZ ?_ | refine zI ?_) | ((with_reducible refine And.intro ?_ ?_); · exact Sq) | ((first | with_reducible refine zC fun KC J hJ hKC => ?_ | (refine hKC _ _ _ _ _ (zT [0, 1] k1 rfl rfl rfl (by decide) (by simp) rfl (zv rfl rfl rfl) Lq ?_))); simp (maxSteps := 9999999) only [push_cast, seval, ↓reduceIte, hlt, Int.lt_irrefl, hsub, hle2, htk, List.cons_append, List.nil_append, zAT, mOf, idx, Int.toNat_natCast, zPf]) | ((with_reducible refine hJ _ _ ?_); clear hJ hKC KC J) | ((with_reducible refine zH ?_ ?_); · rfl)
  refine zw 4 (γ := {i : Nat // i ≤ (b.stack.drop k).length}) (fun i => ⟨[.ptr 0 0 0, .any, .any, .any, .ptr 2 0 0, .ptr 3 0 0, .any, .any, .any, .any, .any, .any, .any, .any, .any, .any, .any, .any, .any, .any, .any, .any, .any, .any, .any, .any, .any, .any, .any, .any, .any, .any, .any, .any, .any, .any, .any, .any, .any, .any, .any, .any, .any, .any, .any, .any, .any, .any, .any, .any, .any, .any, .any, .any, .any, .any, .any, .any, .any, .any, .any, .any, .any, .any, .any, .any, .any, .any, .any, .any, .any, .any, .any, .any, .any, .any, .any, .any, .any, .any, .any, .any, .any, .any, .any, .any, .any, .any, .any, .any, .any, .any, .any, .any, .any, .any, .any, .any, .any, .any, .any, .any, .any, .any, .any, .any, .any, .any, .any, .any, .any, .sl false 3 (zg (b.stack.drop k)), .v (.int .i64 (b.stack.drop k).length), .v (.int .i64 i.1), .any, .any, .any, .any, .any, .any, .any, .any, .any, .any, .any, .any, .any, .any, .any, .any, .any, .any, .any, .any, .any, .any, .any, .any, .any, .any, .any, .any, .any, .any, .any, .any, .any, .any], [.ent (mkP q 1 (A4 ++ ((b.stack.drop k).take i.1).flatMap (zCe q.sp))), zBN (A4 ++ ((b.stack.drop k).take i.1).flatMap (zCe q.sp)), .ent ⟨0, none, 39, [.v (.int .i64 a.v), .v (.int .i64 a.l), .sl f1 3 (zo a.code), .sl f2 2 (za a.mem), .sl f3 3 (zg a.stack), .sl f4 2 (za a.out)], .cells⟩, .ent ⟨0, none, 39, [.v (.int .i64 b.v), .v (.int .i64 b.l), .sl g1 3 (zo b.code), .sl g2 2 (za b.mem), .sl g3 3 (zg b.stack), .sl g4 2 (za b.out)], .cells⟩]⟩) (fun i => (b.stack.drop k).length - i.1) ⟨0, by omega⟩ (fun i => rfl) (fun i => ?_) (fun i => rfl) ⟨?_, ?_⟩ ?_
  ·refine zAF ?_
   simp only [List.map_cons, List.map_nil, zAX, zBn, zCG, zDK, zDY, show mOf (List.range 4) 1 = some 1 from rfl, zBV]
   rfl
  ·exact Lq
  ·simp only [List.take_zero, List.flatMap_nil, List.append_nil]
   exact Fq
  rintro ⟨i, hi⟩
  dsimp only
  by_cases hlt : (i : Int) < ((b.stack.drop k).length : Int)
  ·have hx : (b.stack.drop k)[i]? = some (b.stack.drop k)[i] := List.getElem?_eq_getElem (by omega)
   obtain ⟨x, hx0⟩ : ∃ x, (b.stack.drop k)[i] = x := ⟨_, rfl⟩
   rw [hx0] at hx
   have hst : A4 ++ ((b.stack.drop k).take (i + 1)).flatMap (zCe q.sp) = (A4 ++ ((b.stack.drop k).take i).flatMap (zCe q.sp)) ++ zCe q.sp x := by rw [zCM hx, List.append_assoc]
   have hwn := zp (i := i) (n := (b.stack.drop k).length) (by omega) (by omega)
   have hLl : (A4 ++ ((b.stack.drop k).take i).flatMap (zCe q.sp)).length ≤ 650 := by
    have hb := zAY (zJJ q.sp) ((b.stack.drop k).take i)
    rw [List.length_take] at hb
    rw [List.length_append]
    omega
   have hlab := hsD x (List.mem_of_getElem? hx)
   obtain ⟨L, hL⟩ : ∃ L, A4 ++ ((b.stack.drop k).take i).flatMap (zCe q.sp) = L := ⟨_, rfl⟩
   rw [hL] at hst hLl ⊢
   obtain ⟨r, v, c⟩ := x
   have hge := zBi hx
   simp only at hge hlab
   rw [show zCe q.sp (r, v, c) = [zIS (r, v, c), c, zCH q.sp (r, v, c)] from rfl] at hst
   have t1 := zPE q L (r, v, c) (by omega)
   obtain ⟨L1, hL1⟩ : ∃ l, L ++ [zIS (r, v, c)] = l := ⟨_, rfl⟩
   have lL1 : L1.length = L.length + 1 := by rw [← hL1]; simp
   rw [hL1] at t1
   have t2 := zAt q L1 c (by omega)
   obtain ⟨L2, hL2⟩ : ∃ l, L1 ++ [c] = l := ⟨_, rfl⟩
   have lL2 : L2.length = L1.length + 1 := by rw [← hL2]; simp
   rw [hL2] at t2
   have t3 := zFR q L2 (r, v, c) (by omega)
   obtain ⟨L3, hL3⟩ : ∃ l, L2 ++ [zCH q.sp (r, v, c)] = l := ⟨_, rfl⟩
   have lL3 : L3.length = L2.length + 1 := by rw [← hL3]; simp
   rw [hL3] at t3
   have hnew : L ++ [zIS (r, v, c), c, zCH q.sp (r, v, c)] = L3 := by rw [← hL3, ← hL2, ← hL1]; try simp only [List.append_assoc, List.cons_append, List.nil_append, List.append_nil]
   rw [hnew] at hst
   simp only [mkP] at t1 t2 t3 ⊢
   repeat' first | (with_reducible first | refine zA ?_ | refine zB ?_ | refine zP ?_ | refine zJ ?_ | refine zI ?_) | ((with_reducible refine And.intro ?_ ?_); · exact Sq) | ((first | with_reducible refine zC fun KC J hJ hKC => ?_ | (refine hKC _ _ _ _ _ (zT [0, 1] t1 rfl rfl rfl (by decide) (by simp) rfl (zv rfl rfl rfl) Lq ?_)) | (refine hKC _ _ _ _ _ (zT [0, 1] t2 rfl rfl rfl (by decide) (by simp) rfl (zv rfl rfl rfl) Lq ?_)) | (refine hKC _ _ _ _ _ (zT [0, 1] t3 rfl rfl rfl (by decide) (by simp) rfl (zv rfl rfl rfl) Lq ?_))); simp (maxSteps := 9999999) only [push_cast, seval, ↓reduceIte, hlt, hge, hwn, List.cons_append, List.nil_append, zAT, mOf, idx]) | ((with_reducible refine hJ _ _ ?_); clear hJ hKC KC J) | ((with_reducible refine zG ?_ ?_); · rfl)
   refine ⟨⟨i + 1, by omega⟩, by simp only; omega, ?_, ?_⟩
   ·exact Lq
   ·simp only [hst]; exact ⟨_, rfl⟩
  have hin : i = (b.stack.drop k).length := by omega
  have hend : A4 ++ ((b.stack.drop k).take i).flatMap (zCe q.sp) = A4 ++ (b.stack.drop k).flatMap (zCe q.sp) := by rw [hin, List.take_length]
  rw [hend]
  obtain ⟨A5, hA5⟩ : ∃ l, A4 ++ (b.stack.drop k).flatMap (zCe q.sp) = l := ⟨_, rfl⟩
  have lA5 : A5.length ≤ 650 := by
   have hb := zAY (zJJ q.sp) (b.stack.drop k)
   rw [← hA5, List.length_append]; (try simp only [List.length_take] at hb); omega
  rw [hA5]
  have k2 := zAt q A5 b.v (by omega)
  obtain ⟨A6, hA6⟩ : ∃ l, A5 ++ [b.v] = l := ⟨_, rfl⟩
  have lA6 : A6.length = A5.length + 1 := by rw [← hA6]; simp
  obtain ⟨N, hN, hNl⟩ := zBU hbL
  rw [hN]
  rw [hA6] at k2
  simp only [mkP, hA6, hN] at k2 ⊢
  repeat' first | (with_reducible first | refine zA ?_ | refine zB ?_ | refine zm ?_ | refine zl ?_ | refine zZ ?_ | refine zI ?_) | ((first | with_reducible refine zC fun KC J hJ hKC => ?_ | (refine hKC _ _ _ _ _ (zT [0, 1] k2 rfl rfl rfl (by decide) (by simp) rfl (zv rfl rfl rfl) Lq ?_))); simp (maxSteps := 9999999) only [push_cast, seval, ↓reduceIte, hlt, Int.lt_irrefl, List.cons_append, List.nil_append, zAT, mOf, idx]) | ((with_reducible refine hJ _ _ ?_); clear hJ hKC KC J) | ((with_reducible refine zH ?_ ?_); · rfl)
  refine zw 4 (γ := {i : Nat // i ≤ N}) (fun i => ⟨[.ptr 0 0 0, .any, .any, .any, .any, .any, .any, .any, .any, .any, .any, .any, .any, .any, .any, .any, .any, .any, .v (.int .i64 (zEl q.us q.o (i.1 : Int) : Int)), .any, .any, .any, .any, .any, .any, .any, .any, .any, .any, .any, .any, .any, .any, .any, .any, .any, .any, .any, .any, .any, .any, .any, .any, .any, .any, .any, .any, .any, .any, .any, .any, .any, .any, .any, .any, .any, .any, .any, .any, .any, .any, .any, .any, .any, .any, .any, .any, .any, .any, .any, .any, .any, .any, .any, .any, .any, .any, .any, .any, .any, .any, .any, .any, .any, .any, .any, .any, .any, .any, .any, .any, .any, .any, .any, .any, .any, .any, .any, .any, .any, .any, .any, .any, .any, .any, .any, .any, .any, .any, .any, .any, .any, .any, .any, .any, .any, .any, .any, .any, .any, .any, .any, .any, .any, .any, .any, .any, .any, .any, .any, .any, .any, .any, .any, .any, .v (.int .i64 (N : Int)), .v (.int .i64 i.1), .any, .any, .any, .any, .any, .any, .any, .any, .any, .any, .any], [.ent (mkP q 1 A6), zBN A6, .ent ⟨0, none, 39, [.v (.int .i64 a.v), .v (.int .i64 a.l), .sl f1 3 (zo a.code), .sl f2 2 (za a.mem), .sl f3 3 (zg a.stack), .sl f4 2 (za a.out)], .cells⟩, .ent ⟨0, none, 39, [.v (.int .i64 b.v), .v (.int .i64 (N : Int)), .sl g1 3 (zo b.code), .sl g2 2 (za b.mem), .sl g3 3 (zg b.stack), .sl g4 2 (za b.out)], .cells⟩]⟩) (fun i => N - i.1) ⟨0, by omega⟩ (fun i => rfl) (fun i => ?_) (fun i => rfl) ⟨?_, ?_⟩ ?_
  ·refine zAF ?_
   simp only [List.map_cons, List.map_nil, zAX, zBn, zCG, zDK, zDY, show mOf (List.range 4) 1 = some 1 from rfl, zBV]
   rfl
  ·simp only [show zEl q.us q.o ((0 : Nat) : Int) = 0 from rfl]
   exact Lq
  ·exact Fq
  rintro ⟨i, hi⟩
  dsimp only
  have hnb := zSe q.us q.o i
  by_cases hlt : (i : Int) < (N : Int)
  ·have hh := zCn q hq A6 (i : Int) (zAG.2 (by omega))
   have hst := zPb q.us q.o i
   have hwn := zp (i := i) (n := N) (by omega) (by omega)
   obtain ⟨n, hn⟩ : ∃ n, zEl q.us q.o (i : Int) = n := ⟨_, rfl⟩
   rw [hn] at hst hnb ⊢
   have hwm := zp (i := n) (n := N) (by omega) (by omega)
   obtain ⟨hb, hhb⟩ : ∃ b, hid q.us q.o (i : Int) = b := ⟨_, rfl⟩
   rw [hhb] at hh hst
   cases hb
   case false =>
    rw [if_neg (by simp), Nat.add_zero] at hst
    simp only [mkP] at hh ⊢
    repeat' first | (with_reducible first | refine zA ?_ | refine zB ?_ | refine zP ?_ | refine zJ ?_ | refine zI ?_) | ((first | with_reducible refine zC fun KC J hJ hKC => ?_ | (refine hKC _ _ _ _ _ (zT [0, 1] hh rfl rfl rfl (by decide) (by simp) rfl (zv rfl rfl rfl) Lq ?_))); simp (maxSteps := 9999999) only [push_cast, seval, ↓reduceIte, hlt, hwn, hwm, List.cons_append, List.nil_append, zAT, mOf, idx]) | ((with_reducible refine hJ _ _ ?_); clear hJ hKC KC J) | ((with_reducible refine zG ?_ ?_); · rfl) | ((with_reducible refine zH ?_ ?_); · rfl)
    refine ⟨⟨i + 1, by omega⟩, by simp only; omega, ?_, ?_⟩
    ·simp only [hst]
     exact Lq
    ·exact ⟨_, rfl⟩
   case true =>
    rw [if_pos rfl] at hst
    simp only [mkP] at hh ⊢
    repeat' first | (with_reducible first | refine zA ?_ | refine zB ?_ | refine zP ?_ | refine zJ ?_ | refine zI ?_) | ((first | with_reducible refine zC fun KC J hJ hKC => ?_ | (refine hKC _ _ _ _ _ (zT [0, 1] hh rfl rfl rfl (by decide) (by simp) rfl (zv rfl rfl rfl) Lq ?_))); simp (maxSteps := 9999999) only [push_cast, seval, ↓reduceIte, hlt, hwn, hwm, List.cons_append, List.nil_append, zAT, mOf, idx]) | ((with_reducible refine hJ _ _ ?_); clear hJ hKC KC J) | ((with_reducible refine zG ?_ ?_); · rfl)
    refine ⟨⟨i + 1, by omega⟩, by simp only; omega, ?_, ?_⟩
    ·simp only [hst]
     exact Lq
    ·exact ⟨_, rfl⟩
  have hin : i = N := by omega
  subst hin
  have k3 := zAt q A6 (zEl q.us q.o (i : Int)) (by omega)
  obtain ⟨A7, hA7⟩ : ∃ l, A6 ++ [(zEl q.us q.o (i : Int) : Int)] = l := ⟨_, rfl⟩
  rw [hA7] at k3
  simp only [mkP, hA7] at k3 ⊢
  repeat' first | (with_reducible first | refine zA ?_ | refine zB ?_ | refine zm ?_ | refine zl ?_ | refine zZ ?_) | ((first | with_reducible refine zC fun KC J hJ hKC => ?_ | (refine hKC _ _ _ _ _ (zT [0, 1] k3 rfl rfl rfl (by decide) (by simp) rfl (zv rfl rfl rfl) Lq ?_))); simp (maxSteps := 9999999) only [push_cast, seval, ↓reduceIte, hlt, Int.lt_irrefl, List.cons_append, List.nil_append, zAT, mOf, idx]) | ((with_reducible refine hJ _ _ ?_); clear hJ hKC KC J) | ((with_reducible refine zH ?_ ?_); · rfl)
  exact zGU rfl rfl rfl
theorem zNR (sp : Sp) {s : Sta} (h : Sml15 s) : (zAm sp s).length ≤ 140 := by
 have h1 := zAY (zLJ sp) s.code
 have h2 := zAY (zIr sp) s.mem
 have h3 := zAY (zJA sp) s.stack
 have h4 := h.code
 have h5 := h.mem
 have h6 := h.stack
 simp only [zAm, List.length_append, List.length_cons, List.length_nil]
 omega
theorem zMl (sp : Sp) (us : List Nat) (o : Nat) (a : Sta) {b : Sta} (h : Sml15 b) : (zAg sp us o a b).length ≤ 190 := by
 have h1 := zAY (zNx sp us o) b.code
 have h2 := zAY (zNo sp us o) b.mem
 have h3 := zAY (zHP sp us o) b.stack
 have h3' := zAY (zHP sp us o) (zu us o b.stack)
 have h7 := zAY (zJJ sp) (b.stack.drop (zu us o b.stack).length)
 have h8 : (zu us o b.stack).length ≤ b.stack.length := by unfold zu; rw [List.length_take]; omega
 have h4 := h.code
 have h5 := h.mem
 have h6 := h.stack
 rw [List.length_drop] at h7
 unfold zAg
 split
 ·simp only [List.length_append, List.length_cons, List.length_nil]
  omega
 ·simp only [List.length_append]
  omega
theorem zJW (sp : Sp) (s : Sta) : 0 < (zAm sp s).length := by simp [zAm]
theorem zGu (f g : Bool) (ns : List ByteArray) (us : List Nat) (sp : Sp) (s : Sta) (hs : Szs ns) (hu : U32 us) (hw : sp.ws.length ≤ 1000) (hl : Sml15 s) :
  Fn Tryz.prog 35 [.agg [.sl f 1 (zS ns), .sl g 1 (zQ us)], .agg (spF false sp), .agg (zAO false false false false s)] [] (.tup [.sl false 1 (zM (stU ns us sp s)), .v (.int .i64 (zCd ns us sp s))]) [] := by
 have h1 := zOx f g true ns us sp [s] hs hu hw (by intro x hx; simp at hx; subst hx; exact hl.sml) (by simp)
 rw [zRc] at h1
 unfold stU
 obtain ⟨m, hm⟩ : ∃ m, zCd ns us sp s = m := ⟨_, rfl⟩
 rw [hm] at h1 ⊢
 by_cases h0 : m = 0
 ·subst h0
  have k := zPV ⟨f, g, ns, us, sp, 0⟩ false false false false s hw (by have := hl.code; omega) (by have := hl.mem; omega) (by have := hl.stack; omega)
  have hpos := zJW sp s
  rw [if_pos rfl]
  obtain ⟨L, hL⟩ : ∃ L, zAm sp s = L := ⟨_, rfl⟩
  rw [hL] at k hpos ⊢
  obtain ⟨j, hj⟩ : ∃ j, L.length = j + 1 := ⟨L.length - 1, by omega⟩
  simp only [zDu, List.map_cons, List.map_nil, zAO, spF] at h1 k ⊢
  refine Fn.of (fn := Tryz.f35) (by kernel_rfl) rfl (by kernel_rfl) ⟨[.agg [.sl f 1 (zS ns), .sl g 1 (zQ us)], .agg [.v (.int .i64 sp.code), .v (.int .i64 sp.mem), .v (.int .i64 sp.stack), .v (.int .i64 sp.val), .sl false 1 (zM sp.ws)], .agg [.v (.int .i64 s.v), .v (.int .i64 s.l), .sl false 3 (zo s.code), .sl false 2 (za s.mem), .sl false 3 (zg s.stack), .sl false 2 (za s.out)], .v undef, .v undef, .v undef, .v undef, .v undef, .v undef, .v undef, .v undef, .v undef, .v undef, .v undef, .v undef, .v undef, .v undef, .v undef, .v undef, .v undef, .v undef, .v undef, .v undef, .v undef, .v undef, .v undef, .v undef, .v undef, .v undef], []⟩ rfl ?_
  simp only [mkP] at k
  rw [zFM hj, hj, zHz] at k
  have hlC : (zt L).length = j + 1 := by rw [zAM, hj]
  have hcp : zAh 1 (j + 1) (zt L) = zM L := by rw [← hj]; exact zFW L
  have hbq : Nat.beq j j = true := Nat.beq_refl j
  repeat' first | (with_reducible first | refine zA ?_ | refine zB ?_ | refine zJ ?_) | ((first | with_reducible refine zC fun KC J hJ hKC => ?_ | (refine hKC _ _ _ _ _ (zT [5, 3] k rfl rfl rfl (by decide) (by simp) rfl rfl Lq ?_)) | (refine hKC _ _ _ _ _ (zD (h1) rfl rfl rfl ?_ ?_); (· exact Lq))); simp (maxSteps := 9999999) only [push_cast, seval, ↓reduceIte, bne_self_eq_false, zX, zN, zL, pick, mOf, idx, ren, ren2, ren1, ren0, zAE]) | ((with_reducible refine hJ _ _ ?_); clear hJ hKC KC J) | ((with_reducible refine zH ?_ ?_); · rfl)
  refine zAe 3 rfl (by simp (maxSteps := 9999999) only [push_cast, seval, ↓reduceIte]) ?_
  simp (maxSteps := 9999999) only [push_cast, seval, ↓reduceIte, zAK, zi, fr3, fr2, fr1, fr0, zq, zn, hbq, hlC, hcp]
  refine zF ?_
  refine zE ?_
  simp (maxSteps := 9999999) only [push_cast, seval, ↓reduceIte, show Tryz.f35.results = #[(.tmp 6), (.tmp 7)] from rfl]
  exact Lq
 ·have h0' : (m != 0) = true := by simpa using h0
  rw [if_neg h0]
  simp only [zDu, List.map_cons, List.map_nil, zAO, spF] at h1 ⊢
  refine Fn.of (fn := Tryz.f35) (by kernel_rfl) rfl (by kernel_rfl) ⟨[.agg [.sl f 1 (zS ns), .sl g 1 (zQ us)], .agg [.v (.int .i64 sp.code), .v (.int .i64 sp.mem), .v (.int .i64 sp.stack), .v (.int .i64 sp.val), .sl false 1 (zM sp.ws)], .agg [.v (.int .i64 s.v), .v (.int .i64 s.l), .sl false 3 (zo s.code), .sl false 2 (za s.mem), .sl false 3 (zg s.stack), .sl false 2 (za s.out)], .v undef, .v undef, .v undef, .v undef, .v undef, .v undef, .v undef, .v undef, .v undef, .v undef, .v undef, .v undef, .v undef, .v undef, .v undef, .v undef, .v undef, .v undef, .v undef, .v undef, .v undef, .v undef, .v undef, .v undef, .v undef, .v undef], []⟩ rfl ?_
  repeat' first | (with_reducible first | refine zA ?_ | refine zB ?_ | refine zb ?_ | refine zF ?_) | ((first | with_reducible refine zC fun KC J hJ hKC => ?_ | (refine hKC _ _ _ _ _ (zD (h1) rfl rfl rfl ?_ ?_); (· exact Lq))); simp (maxSteps := 9999999) only [push_cast, seval, ↓reduceIte, h0']) | ((with_reducible refine hJ _ _ ?_); clear hJ hKC KC J) | ((with_reducible refine zG ?_ ?_); · rfl)
  refine zE ?_
  simp (maxSteps := 9999999) only [push_cast, seval, ↓reduceIte, show Tryz.f35.results = #[(.tmp 6), (.tmp 7)] from rfl]
  exact Lq
theorem zOF (ns : List ByteArray) (us : List Nat) (sp : Sp) (o : Int) (a b : Sta) (hs : Szs ns) (hu : U32 us) (hw : sp.ws.length ≤ 1000) (ha : Sml15 a) (hb : Sml15 b) :
  Fn Tryz.prog 36 [.agg [.sl false 1 (zS ns), .sl false 1 (zQ us)], .agg (spF false sp), .v (.int .i64 o), .agg (zAO false false false false a), .agg (zAO false false false false b)] [] (.tup [.sl false 1 (zM (vaU ns us sp o a b)), .v (.int .i64 (zCP ns us sp o a b))]) [] := by
 have h1 := zMf false false ns us sp o a b hs hu hw ha hb
 unfold vaU
 by_cases h0 : zCP ns us sp o a b = 0
 ·rw [if_pos h0]
  rw [h0] at h1 ⊢
  obtain ⟨hm, hia, hib, hok, hal⟩ := zGI.1 h0
  have ok := zNY hok
  obtain ⟨O, rfl, hO⟩ := zBU ok.ob
  rw [Int.toNat_natCast]
  have hul := zKC ok.chk
  have k := zNi ⟨false, false, ns, us, sp, O⟩ ⟨hs, hu, ok.chk, hO⟩ (by simp only; omega) false false false false false false false false a b ⟨by have := hb.code; omega, by have := hb.mem; omega, by have := hb.stack; omega, fun x hx _ => ok.cb x hx, ok.mb, ok.sb, ok.la, ok.lb⟩
  obtain ⟨L, hL⟩ : ∃ L, zAg sp us O a b = L := ⟨_, rfl⟩
  simp only [hL] at k ⊢
  simp only [zAO, spF] at h1 k ⊢
  cases hj : L.length with
  | zero =>
   have hL0 := List.length_eq_zero_iff.1 hj
   subst hL0
   simp only [mkP, zIa] at k
   rw [List.length_nil, zPG] at k
   refine Fn.of (fn := Tryz.f36) (by kernel_rfl) rfl (by kernel_rfl) ⟨[.agg [.sl false 1 (zS ns), .sl false 1 (zQ us)], .agg [.v (.int .i64 sp.code), .v (.int .i64 sp.mem), .v (.int .i64 sp.stack), .v (.int .i64 sp.val), .sl false 1 (zM sp.ws)], .v (.int .i64 (O : Int)), .agg [.v (.int .i64 a.v), .v (.int .i64 a.l), .sl false 3 (zo a.code), .sl false 2 (za a.mem), .sl false 3 (zg a.stack), .sl false 2 (za a.out)], .agg [.v (.int .i64 b.v), .v (.int .i64 b.l), .sl false 3 (zo b.code), .sl false 2 (za b.mem), .sl false 3 (zg b.stack), .sl false 2 (za b.out)], .v undef, .v undef, .v undef, .v undef, .v undef, .v undef, .v undef, .v undef, .v undef, .v undef, .v undef, .v undef, .v undef, .v undef, .v undef, .v undef, .v undef, .v undef, .v undef, .v undef, .v undef, .v undef, .v undef, .v undef, .v undef, .v undef, .v undef, .v undef, .v undef, .v undef, .v undef], []⟩ rfl ?_
   repeat' first | (with_reducible first | refine zA ?_ | refine zB ?_ | refine zF ?_ | refine zJ ?_) | ((first | with_reducible refine zC fun KC J hJ hKC => ?_ | (refine hKC _ _ _ _ _ (zT [5, 4] k rfl rfl rfl (by decide) (by simp) rfl rfl Lq ?_)) | (refine hKC _ _ _ _ _ (zD (h1) rfl rfl rfl ?_ ?_); (· exact Lq))); simp (maxSteps := 9999999) only [push_cast, seval, ↓reduceIte, bne_self_eq_false, zX, zN, zL, pick, mOf, idx, ren, ren2, ren1, ren0, zAE]) | ((with_reducible refine hJ _ _ ?_); clear hJ hKC KC J) | ((with_reducible refine zH ?_ ?_); · rfl)
   refine zE ?_
   simp (maxSteps := 9999999) only [push_cast, seval, ↓reduceIte, show Tryz.f36.results = #[(.tmp 10), (.tmp 11)] from rfl]
   exact Lq
  | succ j =>
   simp only [mkP] at k
   rw [zFM hj, hj, zHz] at k
   have hlC : (zt L).length = j + 1 := by rw [zAM, hj]
   have hcp : zAh 1 (j + 1) (zt L) = zM L := by rw [← hj]; exact zFW L
   have hbq : Nat.beq j j = true := Nat.beq_refl j
   refine Fn.of (fn := Tryz.f36) (by kernel_rfl) rfl (by kernel_rfl) ⟨[.agg [.sl false 1 (zS ns), .sl false 1 (zQ us)], .agg [.v (.int .i64 sp.code), .v (.int .i64 sp.mem), .v (.int .i64 sp.stack), .v (.int .i64 sp.val), .sl false 1 (zM sp.ws)], .v (.int .i64 (O : Int)), .agg [.v (.int .i64 a.v), .v (.int .i64 a.l), .sl false 3 (zo a.code), .sl false 2 (za a.mem), .sl false 3 (zg a.stack), .sl false 2 (za a.out)], .agg [.v (.int .i64 b.v), .v (.int .i64 b.l), .sl false 3 (zo b.code), .sl false 2 (za b.mem), .sl false 3 (zg b.stack), .sl false 2 (za b.out)], .v undef, .v undef, .v undef, .v undef, .v undef, .v undef, .v undef, .v undef, .v undef, .v undef, .v undef, .v undef, .v undef, .v undef, .v undef, .v undef, .v undef, .v undef, .v undef, .v undef, .v undef, .v undef, .v undef, .v undef, .v undef, .v undef, .v undef, .v undef, .v undef, .v undef, .v undef], []⟩ rfl ?_
   repeat' first | (with_reducible first | refine zA ?_ | refine zB ?_ | refine zJ ?_) | ((first | with_reducible refine zC fun KC J hJ hKC => ?_ | (refine hKC _ _ _ _ _ (zT [5, 4] k rfl rfl rfl (by decide) (by simp) rfl rfl Lq ?_)) | (refine hKC _ _ _ _ _ (zD (h1) rfl rfl rfl ?_ ?_); (· exact Lq))); simp (maxSteps := 9999999) only [push_cast, seval, ↓reduceIte, bne_self_eq_false, zX, zN, zL, pick, mOf, idx, ren, ren2, ren1, ren0, zAE]) | ((with_reducible refine hJ _ _ ?_); clear hJ hKC KC J) | ((with_reducible refine zH ?_ ?_); · rfl)
   refine zAe 4 rfl (by simp (maxSteps := 9999999) only [push_cast, seval, ↓reduceIte]) ?_
   simp (maxSteps := 9999999) only [push_cast, seval, ↓reduceIte, zAK, zi, fr3, fr2, fr1, fr0, zq, zn, hbq, hlC, hcp]
   refine zF ?_
   refine zE ?_
   simp (maxSteps := 9999999) only [push_cast, seval, ↓reduceIte, show Tryz.f36.results = #[(.tmp 10), (.tmp 11)] from rfl]
   exact Lq
 ·rw [if_neg h0]
  obtain ⟨e, he⟩ : ∃ e, zCP ns us sp o a b = e := ⟨_, rfl⟩
  rw [he] at h0 h1 ⊢
  have h0' : (e != 0) = true := by simpa using h0
  simp only [zAO, spF] at h1 ⊢
  refine Fn.of (fn := Tryz.f36) (by kernel_rfl) rfl (by kernel_rfl) ⟨[.agg [.sl false 1 (zS ns), .sl false 1 (zQ us)], .agg [.v (.int .i64 sp.code), .v (.int .i64 sp.mem), .v (.int .i64 sp.stack), .v (.int .i64 sp.val), .sl false 1 (zM sp.ws)], .v (.int .i64 o), .agg [.v (.int .i64 a.v), .v (.int .i64 a.l), .sl false 3 (zo a.code), .sl false 2 (za a.mem), .sl false 3 (zg a.stack), .sl false 2 (za a.out)], .agg [.v (.int .i64 b.v), .v (.int .i64 b.l), .sl false 3 (zo b.code), .sl false 2 (za b.mem), .sl false 3 (zg b.stack), .sl false 2 (za b.out)], .v undef, .v undef, .v undef, .v undef, .v undef, .v undef, .v undef, .v undef, .v undef, .v undef, .v undef, .v undef, .v undef, .v undef, .v undef, .v undef, .v undef, .v undef, .v undef, .v undef, .v undef, .v undef, .v undef, .v undef, .v undef, .v undef, .v undef, .v undef, .v undef, .v undef, .v undef], []⟩ rfl ?_
  repeat' first | (with_reducible first | refine zA ?_ | refine zB ?_ | refine zb ?_ | refine zF ?_) | ((first | with_reducible refine zC fun KC J hJ hKC => ?_ | (refine hKC _ _ _ _ _ (zD (h1) rfl rfl rfl ?_ ?_); (· exact Lq))); simp (maxSteps := 9999999) only [push_cast, seval, ↓reduceIte, h0']) | ((with_reducible refine hJ _ _ ?_); clear hJ hKC KC J) | ((with_reducible refine zG ?_ ?_); · rfl)
  refine zE ?_
  simp (maxSteps := 9999999) only [push_cast, seval, ↓reduceIte, show Tryz.f36.results = #[(.tmp 10), (.tmp 11)] from rfl]
  exact Lq
theorem zRi (f g : Bool) (ns : List ByteArray) (us : List Nat) (sp : Sp) (o : Int) (a b : Sta) (hs : Szs ns) (hu : U32 us) (hw : sp.ws.length ≤ 1000) (ha : Sml15 a) (hb : Sml15 b) :
  Fn Tryz.prog 37 [.agg [.sl false 1 (zS ns), .sl false 1 (zQ us)], .agg (spF false sp), .v (.int .i64 o), .agg (zAO false false false false a), .agg (zAO false false false false b)] [] (.tup [.sl false 1 (zM (paU ns us sp o a b)), .v (.int .i64 (zCP ns us sp o a b))]) [] := by
 have h1 := zMf false false ns us sp o a b hs hu hw ha hb
 unfold paU
 by_cases h0 : zCP ns us sp o a b = 0
 ·have h2 := zGu false false ns us sp a hs hu hw ha
  have h3 := zOF ns us sp o a b hs hu hw ha hb
  have ht := zGI.1 h0
  have hpl : (zAm sp a ++ zAg sp us o.toNat a b).length ≤ 330 := by have := zNR sp ha; have := zMl sp us o.toNat a hb; rw [List.length_append]; omega
  have hms := zJC.2 ⟨ht.may, ht.ia⟩
  unfold stU at h2
  unfold vaU at h3
  rw [if_pos hms, hms] at h2
  rw [if_pos h0, h0] at h3
  rw [if_pos h0, h0]
  rw [h0] at h1
  have hpos := zJW sp a
  obtain ⟨A, hA⟩ : ∃ A, zAm sp a = A := ⟨_, rfl⟩
  obtain ⟨B, hB⟩ : ∃ A, zAg sp us o.toNat a b = A := ⟨_, rfl⟩
  rw [hA] at h2 hpl hpos ⊢
  rw [hB] at h3 hpl ⊢
  have hfl : zBA [(false, A), (false, B)] = A ++ B := by simp [zBA]
  have h4 := zKd true [(false, A), (false, B)] (by rw [hfl, List.length_append]; omega) (by rw [hfl]; omega) (by simp)
  rw [hfl] at h4
  simp only [zEj, List.map_cons, List.map_nil] at h4
  simp only [zAO, spF] at h1 h2 h3 ⊢
  refine Fn.of (fn := Tryz.f37) (by kernel_rfl) rfl (by kernel_rfl) ⟨[.agg [.sl false 1 (zS ns), .sl false 1 (zQ us)], .agg [.v (.int .i64 sp.code), .v (.int .i64 sp.mem), .v (.int .i64 sp.stack), .v (.int .i64 sp.val), .sl false 1 (zM sp.ws)], .v (.int .i64 o), .agg [.v (.int .i64 a.v), .v (.int .i64 a.l), .sl false 3 (zo a.code), .sl false 2 (za a.mem), .sl false 3 (zg a.stack), .sl false 2 (za a.out)], .agg [.v (.int .i64 b.v), .v (.int .i64 b.l), .sl false 3 (zo b.code), .sl false 2 (za b.mem), .sl false 3 (zg b.stack), .sl false 2 (za b.out)], .v undef, .v undef, .v undef, .v undef, .v undef, .v undef, .v undef, .v undef, .v undef, .v undef, .v undef, .v undef, .v undef, .v undef, .v undef, .v undef, .v undef, .v undef, .v undef, .v undef, .v undef, .v undef, .v undef, .v undef, .v undef, .v undef, .v undef, .v undef, .v undef, .v undef, .v undef, .v undef, .v undef, .v undef, .v undef, .v undef, .v undef, .v undef, .v undef, .v undef, .v undef], []⟩ rfl ?_
  repeat' first | (with_reducible first | refine zA ?_ | refine zB ?_ | refine zF ?_ | refine zJ ?_) | ((first | with_reducible refine zC fun KC J hJ hKC => ?_ | (refine hKC _ _ _ _ _ (zD (h1) rfl rfl rfl ?_ ?_); (· exact Lq)) | (refine hKC _ _ _ _ _ (zD (h2) rfl rfl rfl ?_ ?_); (· exact Lq)) | (refine hKC _ _ _ _ _ (zD (h3) rfl rfl rfl ?_ ?_); (· exact Lq)) | (refine hKC _ _ _ _ _ (zD (h4) rfl rfl rfl ?_ ?_); (· exact Lq))); simp (maxSteps := 9999999) only [push_cast, seval, ↓reduceIte, bne_self_eq_false]) | ((with_reducible refine hJ _ _ ?_); clear hJ hKC KC J) | ((with_reducible refine zH ?_ ?_); · rfl)
  refine zE ?_
  simp (maxSteps := 9999999) only [push_cast, seval, ↓reduceIte, show Tryz.f37.results = #[(.tmp 10), (.tmp 11)] from rfl]
  exact Lq
 ·rw [if_neg h0]
  obtain ⟨e, he⟩ : ∃ e, zCP ns us sp o a b = e := ⟨_, rfl⟩
  rw [he] at h0 h1 ⊢
  have h0' : (e != 0) = true := by simpa using h0
  simp only [zAO, spF] at h1 ⊢
  refine Fn.of (fn := Tryz.f37) (by kernel_rfl) rfl (by kernel_rfl) ⟨[.agg [.sl false 1 (zS ns), .sl false 1 (zQ us)], .agg [.v (.int .i64 sp.code), .v (.int .i64 sp.mem), .v (.int .i64 sp.stack), .v (.int .i64 sp.val), .sl false 1 (zM sp.ws)], .v (.int .i64 o), .agg [.v (.int .i64 a.v), .v (.int .i64 a.l), .sl false 3 (zo a.code), .sl false 2 (za a.mem), .sl false 3 (zg a.stack), .sl false 2 (za a.out)], .agg [.v (.int .i64 b.v), .v (.int .i64 b.l), .sl false 3 (zo b.code), .sl false 2 (za b.mem), .sl false 3 (zg b.stack), .sl false 2 (za b.out)], .v undef, .v undef, .v undef, .v undef, .v undef, .v undef, .v undef, .v undef, .v undef, .v undef, .v undef, .v undef, .v undef, .v undef, .v undef, .v undef, .v undef, .v undef, .v undef, .v undef, .v undef, .v undef, .v undef, .v undef, .v undef, .v undef, .v undef, .v undef, .v undef, .v undef, .v undef, .v undef, .v undef, .v undef, .v undef, .v undef, .v undef, .v undef, .v undef, .v undef, .v undef], []⟩ rfl ?_
  repeat' first | (with_reducible first | refine zA ?_ | refine zB ?_ | refine zb ?_ | refine zF ?_) | ((first | with_reducible refine zC fun KC J hJ hKC => ?_ | (refine hKC _ _ _ _ _ (zD (h1) rfl rfl rfl ?_ ?_); (· exact Lq))); simp (maxSteps := 9999999) only [push_cast, seval, ↓reduceIte, h0']) | ((with_reducible refine hJ _ _ ?_); clear hJ hKC KC J) | ((with_reducible refine zG ?_ ?_); · rfl)
  refine zE ?_
  simp (maxSteps := 9999999) only [push_cast, seval, ↓reduceIte, show Tryz.f37.results = #[(.tmp 10), (.tmp 11)] from rfl]
  exact Lq
theorem zRh (f g : Bool) (ns : List ByteArray) (us : List Nat) :
  Fn Tryz.prog 33 [.agg [.sl f 1 (zS ns), .sl g 1 (zQ us)]] [] (.agg [.sl false 1 (zS ((ns.take 10).map zJf)), .sl false 1 (zQ (us.take 10))]) [] := by
 refine Fn.of (fn := Tryz.f33) (by kernel_rfl) rfl (by kernel_rfl) ⟨[.agg [.sl f 1 (zS ns), .sl g 1 (zQ us)], .v undef, .v undef, .v undef, .v undef, .v undef, .v undef, .v undef, .v undef, .v undef, .v undef, .v undef, .v undef, .v undef, .v undef, .v undef, .v undef, .v undef, .v undef, .v undef, .v undef, .v undef, .v undef, .v undef, .v undef, .v undef, .v undef, .v undef, .v undef, .v undef, .v undef, .v undef, .v undef, .v undef, .v undef, .v undef, .v undef, .v undef], []⟩ rfl ?_
 repeat' first | (with_reducible first | refine zA ?_ | refine zB ?_ | refine zI ?_) | ((with_reducible refine And.intro ?_ ?_); · exact Sq) | ((with_reducible refine zC fun KC J hJ hKC => ?_); simp (maxSteps := 9999999) only [push_cast, seval, ↓reduceIte, zBs (K := 10) (k := 10) rfl ns, zBs (K := 10) (k := 10) rfl us]) | ((with_reducible refine hJ _ _ ?_); clear hJ hKC KC J)
 obtain ⟨xs, hxs⟩ : ∃ xs, ns.take 10 = xs := ⟨_, rfl⟩
 have hx10 : xs.length ≤ 10 := by rw [← hxs]; simp; omega
 rw [hxs]
 refine zAJ (γ := {i : Nat // i ≤ xs.length}) (fun i => ⟨[.any, .ptr 0 0 0, .ptr 1 0 0, .ptr 2 0 0, .any, .any, .any, .any, .any, .any, .any, .any, .any, .any, .any, .any, .any, .any, .any, .any, .sl false 1 (zS xs), .v (.int .i64 xs.length), .v (.int .i64 i.1), .any, .any, .any, .any, .any, .any, .any, .any, .any, .any, .any, .any, .any, .any, .any], fσ ⟨0, none, 25, [.sl f 1 (zS ns), .sl g 1 (zQ us)], .cells⟩ ⟨0, none, 25, [.v (.slice none 0 0), .v (.slice none 0 0)], .cells⟩ (.sl false 1 (zQ (us.take 10))) xs i.1⟩) (fun i => xs.length - i.1) ⟨0, by simp⟩ ⟨?_, ?_⟩ ?_
 ·exact Lq
 ·simp only [fσ]
  exact Fq
 rintro ⟨i, hi⟩
 obtain ⟨e1, he1⟩ : ∃ e1 : Ent, ⟨0, none, 25, [.sl f 1 (zS ns), .sl g 1 (zQ us)], .cells⟩ = e1 := ⟨_, rfl⟩
 rw [he1]
 by_cases hlt : (i : Int) < (xs.length : Int)
 ·have hx : xs[i]? = some xs[i] := List.getElem?_eq_getElem (by omega)
  obtain ⟨a, ha⟩ : ∃ a, xs[i] = a := ⟨_, rfl⟩
  rw [ha] at hx
  have hcut : a.extract 0 (if (15 : Int) < (a.size : Int) then 15 else (a.size : Int)).toNat = zJf a := rfl
  rcases Nat.eq_zero_or_pos i with rfl | hpos
  ·have hσ := zOa e1 ⟨0, none, 25, [.v (.slice none 0 0), .v (.slice none 0 0)], .cells⟩ (.sl false 1 (zQ (us.take 10))) xs
   have hσ1 := zUO e1 ⟨0, none, 25, [.v (.slice none 0 0), .v (.slice none 0 0)], .cells⟩ (.sl false 1 (zQ (us.take 10))) xs hx
   have hlt0 : (0 : Int) < xs.length := hlt
   repeat' first | (with_reducible first | refine zA ?_ | refine zB ?_ | refine zP ?_ | refine zJ ?_ | refine zI ?_) | ((with_reducible refine And.intro ?_ ?_); · exact Sq) | ((first | with_reducible refine zC fun KC J hJ hKC => ?_ | with_reducible refine zY rfl fun KC J hJ hKC => ?_); simp (maxSteps := 9999999) only [push_cast, seval, ↓reduceIte, hlt0, hσ, zDR hx, hcut]) | ((first | with_reducible refine hJ _ _ ?_ | (with_reducible refine hJ _ _ ?_ ?_; · kernel_rfl)); clear hJ hKC KC J) | ((with_reducible refine zG ?_ ?_); · rfl)
   refine ⟨⟨0 + 1, by omega⟩, by simp only; omega, ?_, ?_⟩
   ·exact Lq
   ·simp only [hσ1]
    exact Fq
  ·obtain ⟨i', hi'⟩ : ∃ i', i = i' + 1 := ⟨i - 1, by omega⟩
   have hσ := zLB e1 ⟨0, none, 25, [.v (.slice none 0 0), .v (.slice none 0 0)], .cells⟩ (.sl false 1 (zQ (us.take 10))) xs hi'
   have hσ1 := zSl e1 ⟨0, none, 25, [.v (.slice none 0 0), .v (.slice none 0 0)], .cells⟩ (.sl false 1 (zQ (us.take 10))) xs hi' hx
   have hlS : (zDM (zEw xs i)).length = i := by simp [zDM, zEq hi]
   have htS := zGY hlS
   have htS' : (zDM (zEw xs i)).take i = zDM (zEw xs i) := List.take_of_length_le (by omega)
   have hbq : Nat.beq i' i' = true := Nat.beq_refl i'
   repeat' first | (with_reducible first | refine zA ?_ | refine zB ?_ | refine zP ?_ | refine zJ ?_ | refine zI ?_) | ((with_reducible refine And.intro ?_ ?_); · exact Sq) | ((first | with_reducible refine zC fun KC J hJ hKC => ?_ | with_reducible refine zY rfl fun KC J hJ hKC => ?_); simp (maxSteps := 9999999) only [push_cast, seval, ↓reduceIte, hlt, hσ, zDR hx, hcut, hbq, hlS, htS, htS', zp (i := i) (n := xs.length) (by omega) (by omega)]) | ((first | with_reducible refine hJ _ _ ?_ | (with_reducible refine hJ _ _ ?_ ?_; · kernel_rfl)); clear hJ hKC KC J) | ((with_reducible refine zG ?_ ?_); · rfl)
   refine ⟨⟨i + 1, by omega⟩, by simp only; omega, ?_, ?_⟩
   ·exact Lq
   ·simp only [hσ1]
    exact Fq
 ·have hix : i = xs.length := by omega
  have hfin : zEw xs i = xs.map zJf := by rw [zEw, hix, List.take_length]
  rcases Nat.eq_zero_or_pos i with rfl | hpos
  ·have hσ := zOa e1 ⟨0, none, 25, [.v (.slice none 0 0), .v (.slice none 0 0)], .cells⟩ (.sl false 1 (zQ (us.take 10))) xs
   have hlt0 : ¬ (0 : Int) < xs.length := hlt
   repeat' first | (with_reducible first | refine zA ?_ | refine zB ?_ | refine zm ?_ | refine zl ?_ | refine zF ?_ | refine zZ ?_) | ((with_reducible refine zC fun KC J hJ hKC => ?_); simp (maxSteps := 9999999) only [push_cast, seval, ↓reduceIte, hlt0, hσ]) | ((with_reducible refine hJ _ _ ?_); clear hJ hKC KC J) | ((with_reducible refine zH ?_ ?_); · rfl)
   refine zE ?_
   simp (maxSteps := 9999999) only [push_cast, seval, ↓reduceIte, show Tryz.f33.results = #[(.cell 2 25)] from rfl]
   rw [← hfin]
   exact Lq
  ·obtain ⟨i', hi'⟩ : ∃ i', i = i' + 1 := ⟨i - 1, by omega⟩
   have hσ := zLB e1 ⟨0, none, 25, [.v (.slice none 0 0), .v (.slice none 0 0)], .cells⟩ (.sl false 1 (zQ (us.take 10))) xs hi'
   have hbq : Nat.beq i' i' = true := Nat.beq_refl i'
   have hlS : (zDM (zEw xs i)).length = i := by simp [zDM, zEq hi]
   have hcS : zAh 1 i (zDM (zEw xs i)) = zS (zEw xs i) := by
    have := zHA (fun s : ByteArray => (.v (.string s) : D)) (zEw xs i)
    rw [zEq hi] at this; exact this
   subst he1
   repeat' first | (with_reducible first | refine zA ?_ | refine zB ?_ | refine zm ?_ | refine zl ?_ | refine zZ ?_) | ((with_reducible refine zC fun KC J hJ hKC => ?_); simp (maxSteps := 9999999) only [push_cast, seval, ↓reduceIte, hlt, hσ]) | ((with_reducible refine hJ _ _ ?_); clear hJ hKC KC J) | ((with_reducible refine zH ?_ ?_); · rfl)
   refine zAe 4 rfl (by simp (maxSteps := 9999999) only [push_cast, seval, ↓reduceIte]) ?_
   simp (maxSteps := 9999999) only [push_cast, seval, ↓reduceIte, zAK, zi, fr3, fr2, fr1, fr0, zq, zn, hbq, hlS, hcS]
   refine zF ?_
   refine zE ?_
   simp (maxSteps := 9999999) only [push_cast, seval, ↓reduceIte, show Tryz.f33.results = #[(.cell 2 25)] from rfl]
   rw [← hfin]
   exact Lq
theorem zMz (fc fm fs fo : Bool) (s : Sta) : Fn Tryz.prog 34 [.agg (zAO fc fm fs fo s)] [] (.agg (zAO false false false false (zDs s))) [] := by
 obtain ⟨v, l, code, mem, stack, out⟩ := s
 simp only [zAO, zDs]
 refine Fn.of (fn := Tryz.f34) (by kernel_rfl) rfl (by kernel_rfl) ⟨[.agg [.v (.int .i64 v), .v (.int .i64 l), .sl fc 3 (zo code), .sl fm 2 (za mem), .sl fs 3 (zg stack), .sl fo 2 (za out)], .v undef, .v undef, .v undef, .v undef, .v undef, .v undef, .v undef, .v undef, .v undef, .v undef, .v undef, .v undef, .v undef, .v undef, .v undef, .v undef, .v undef, .v undef, .v undef, .v undef, .v undef, .v undef, .v undef, .v undef, .v undef, .v undef, .v undef, .v undef, .v undef, .v undef, .v undef, .v undef, .v undef, .v undef, .v undef], []⟩ rfl ?_
 repeat' first | (with_reducible first | refine zA ?_ | refine zB ?_ | refine zF ?_) | ((with_reducible refine And.intro ?_ ?_); · exact Sq) | ((first | with_reducible refine zC fun KC J hJ hKC => ?_ | with_reducible refine zY rfl fun KC J hJ hKC => ?_); simp (maxSteps := 9999999) only [push_cast, seval, ↓reduceIte, zBs (K := 15) (k := 15) rfl code, zBs (K := 15) (k := 15) rfl mem, zBs (K := 15) (k := 15) rfl stack, zBs (K := 15) (k := 15) rfl out]) | ((first | with_reducible refine hJ _ _ ?_ | (with_reducible refine hJ _ _ ?_ ?_; · kernel_rfl)); clear hJ hKC KC J)
 refine zE ?_
 simp (maxSteps := 9999999) only [push_cast, seval, ↓reduceIte, show Tryz.f34.results = #[(.cell 2 39)] from rfl]
 exact zK _
def zKB : List ByteArray := [{ data := #[97] }, { data := #[98] }]
@[reducible] def zRH : Sp := ⟨0, 2, 0, 5, List.replicate 13 1⟩
@[reducible] def s17 : Sta := ⟨0, 0, [], [(-1, 1)], [], []⟩
theorem zNI : Fn Tryz.prog 40 [] [] (.v (.bool true)) [] := by
 have hs : Szs zKB := by
  intro s hs
  simp only [zKB, List.mem_cons, List.not_mem_nil, or_false] at hs
  rcases hs with rfl | rfl <;> (show 1 ≤ _; omega)
 have hu : U32 [3, 2] := by
  intro u hu
  simp at hu
  rcases hu with rfl | rfl <;> decide
 have sa : Sml15 s17 := ⟨by decide, by decide, by decide, by decide⟩
 have hrep : RleF [.v (.int .i64 0), .v (.int .i64 0), .sl false 3 [], .sl true 2 (za [(-1, 1)]), .sl false 3 [], .sl false 2 []] (zAO false false false false s17) :=
  .cons (.refl _) (.cons (.refl _) (.cons (.refl _) (.cons (.full _ _) (.cons (.refl _) (.cons (.refl _) .nil)))))
 have h1 := (zGu true true zKB [3, 2] zRH s17 hs hu (by simp) sa).pre (args := [.agg [.sl true 1 (zS zKB), .sl true 1 (zQ [3, 2])], .agg (spF true zRH), .agg [.v (.int .i64 0), .v (.int .i64 0), .sl false 3 [], .sl true 2 (za [(-1, 1)]), .sl false 3 [], .sl false 2 []]])
  (.cons (.refl _) (.cons (.agg (.cons (.refl _) (.cons (.refl _) (.cons (.refl _) (.cons (.refl _) (.cons (.full _ _) .nil)))))) (.cons (.agg hrep) .nil)))
 rw [show stU zKB [3, 2] zRH s17 = [0, 1, 2, 1, 0, 0, 0] by kernel_rfl, show zCd zKB [3, 2] zRH s17 = 0 by kernel_rfl] at h1
 simp only [spF, zRH, zAO] at h1
 have h2 := (zLo false false [0, 1, 2, 1, 0, 0, 0] [0, 1, 2, 1, 0, 0, 0] (by decide)).pre (args := [.sl false 1 (zM [0, 1, 2, 1, 0, 0, 0]), .sl true 1 (zM [0, 1, 2, 1, 0, 0, 0])]) (.cons (.refl _) (.cons (.full _ _) .nil))
 rw [decide_eq_true rfl] at h2
 refine Fn.of (fn := Tryz.f40) (by kernel_rfl) rfl (by kernel_rfl) ⟨[.v undef, .v undef, .v undef, .v undef, .v undef, .v undef, .v undef, .v undef, .v undef, .v undef, .v undef, .v undef, .v undef, .v undef, .v undef, .v undef, .v undef, .v undef, .v undef, .v undef, .v undef, .v undef, .v undef, .v undef, .v undef, .v undef], []⟩ rfl ?_
 repeat' first | (with_reducible first | refine zA ?_ | refine zB ?_ | refine zF ?_) | ((first | with_reducible refine zC fun KC J hJ hKC => ?_ | (refine hKC _ _ _ _ _ (zD (h1) rfl rfl rfl ?_ ?_); (· exact Lq)) | (refine hKC _ _ _ _ _ (zD (h2) rfl rfl rfl ?_ ?_); (· exact Lq))); simp (maxSteps := 9999999) only [push_cast, seval, ↓reduceIte, beq_self_eq_true, undef]) | ((with_reducible refine hJ _ _ ?_); clear hJ hKC KC J)
 refine zE ?_
 simp (maxSteps := 9999999) only [push_cast, seval, ↓reduceIte, show Tryz.f40.results = #[(.tmp 0)] from rfl]
 exact Lq
theorem zPZ {ns : List ByteArray} {us : List Nat} {sp : Sp} {l : List Int} (hl : l.length ≤ 500) : Sml (zCa ns us sp ⟨l, 0, []⟩).2.1 := ((zNW (ns := ns) (us := us) (sp := sp) (d := ⟨l, 0, []⟩) (by simp only; omega) (by simp)).1).sml
theorem unpickMakes_fn (f g fc fm fs fo gc gm gs go : Bool) (ns : List ByteArray) (us : List Nat) (sp : Sp) (o : Int) (a b : Sta) (hu0 : U32 us) :
  Fn Tryz.prog 8 [.agg [.sl f 1 (zS ns), .sl g 1 (zQ us)], .agg (spF false sp), .v (.int .i64 o), .agg (zAO fc fm fs fo a), .agg (zAO gc gm gs go b)] [] (.v (.bool true)) [] := by
 have hs := zTb ns
 have hu := zSu hu0
 have h1 := zRh f g ns us
 obtain ⟨xs, hxs⟩ : ∃ xs, (ns.take 10).map zJf = xs := ⟨_, rfl⟩
 obtain ⟨ys, hys⟩ : ∃ xs, us.take 10 = xs := ⟨_, rfl⟩
 rw [hxs] at hs h1
 rw [hys] at hu h1
 obtain ⟨q, hq⟩ : ∃ q, zTo sp = q := ⟨_, rfl⟩
 have hqw : q.ws.length ≤ 1000 := by rw [← hq]; simp [zTo]; omega
 have q1 : sp.code = q.code := by rw [← hq]; rfl
 have q2 : sp.mem = q.mem := by rw [← hq]; rfl
 have q3 : sp.stack = q.stack := by rw [← hq]; rfl
 have q4 : sp.val = q.val := by rw [← hq]; rfl
 have q5 : sp.ws.take 16 = q.ws := by rw [← hq]; rfl
 have h6 := zNI
 have c1 := zMz fc fm fs fo a
 have c2 := zMz gc gm gs go b
 have sa := zKT a
 have sb := zKT b
 obtain ⟨A, hA⟩ : ∃ A, zDs a = A := ⟨_, rfl⟩
 obtain ⟨B, hB⟩ : ∃ A, zDs b = A := ⟨_, rfl⟩
 rw [hA] at c1 sa
 rw [hB] at c2 sb
 have h3 := zGu false false xs ys q A hs hu hqw sa
 have h4 := zRi false false xs ys q o A B hs hu hqw sa sb
 have z1 := zKb A A sa sa
 have z2 := zKb B B sb sb
 rw [show zKZ A A = true from zKN.2 rfl] at z1
 rw [show zKZ B B = true from zKN.2 rfl] at z2
 by_cases hA0 : zCd xs ys q A = 0
 ·obtain ⟨hp, hpl⟩ := zPK hA0
  unfold stU at h3
  rw [if_pos hA0, hA0] at h3
  obtain ⟨X, hX⟩ : ∃ X, zAm q A = X := ⟨_, rfl⟩
  rw [hX] at hp hpl h3
  have n1 := zJV false X
  have g1 := zHa false false xs ys q ⟨X, 0, []⟩ hs hu hqw
  rw [hp] at g1
  have z3 := zLo false false X X (by omega)
  rw [decide_eq_true rfl] at z3
  have hXr : ((zM X).length : Int) = (X.length : Int) := by simp [zM]
  by_cases hb0 : zCP xs ys q o A B = 0
  ·obtain ⟨hp2, hpl2⟩ := zOA (zGI.1 hb0)
   unfold paU at h4
   rw [if_pos hb0, hb0] at h4
   rw [hX] at hp2 hpl2 h4
   obtain ⟨Z, hZ⟩ : ∃ Z, X ++ zAg q ys o.toNat A B = Z := ⟨_, rfl⟩
   rw [hZ] at hp2 hpl2 h4
   have n2 := zJV false Z
   have h5 := zTS false false xs ys q o ⟨Z, 0, []⟩ hs hu hqw (fun _ => zPZ (by omega))
   rw [hp2] at h5
   have hZr : ((zM Z).length : Int) = (Z.length : Int) := by simp [zM]
   have hZ2 : decide ((Z.length : Int) ≤ 200) = true := decide_eq_true (by omega)
   have hZ3 : ((Z.length : Int) ≤ 200) = True := eq_true (by omega)
   simp only [zAO, zBC, spF] at c1 c2 h3 h4 h5 g1 z1 z2 ⊢
   refine Fn.of (fn := Tryz.f8) (by kernel_rfl) rfl (by kernel_rfl) ⟨[.agg [.sl f 1 (zS ns), .sl g 1 (zQ us)], .agg [.v (.int .i64 sp.code), .v (.int .i64 sp.mem), .v (.int .i64 sp.stack), .v (.int .i64 sp.val), .sl false 1 (zM sp.ws)], .v (.int .i64 o), .agg [.v (.int .i64 a.v), .v (.int .i64 a.l), .sl fc 3 (zo a.code), .sl fm 2 (za a.mem), .sl fs 3 (zg a.stack), .sl fo 2 (za a.out)], .agg [.v (.int .i64 b.v), .v (.int .i64 b.l), .sl gc 3 (zo b.code), .sl gm 2 (za b.mem), .sl gs 3 (zg b.stack), .sl go 2 (za b.out)], .v undef, .v undef, .v undef, .v undef, .v undef, .v undef, .v undef, .v undef, .v undef, .v undef, .v undef, .v undef, .v undef, .v undef, .v undef, .v undef, .v undef, .v undef, .v undef, .v undef, .v undef, .v undef, .v undef, .v undef, .v undef, .v undef, .v undef, .v undef, .v undef, .v undef, .v undef, .v undef, .v undef, .v undef, .v undef, .v undef, .v undef, .v undef, .v undef, .v undef, .v undef, .v undef, .v undef, .v undef, .v undef, .v undef, .v undef, .v undef, .v undef, .v undef, .v undef, .v undef, .v undef, .v undef, .v undef, .v undef, .v undef, .v undef, .v undef, .v undef, .v undef, .v undef, .v undef, .v undef, .v undef, .v undef, .v undef, .v undef, .v undef, .v undef, .v undef, .v undef, .v undef, .v undef, .v undef, .v undef, .v undef, .v undef, .v undef, .v undef, .v undef, .v undef, .v undef, .v undef, .v undef, .v undef, .v undef, .v undef, .v undef, .v undef, .v undef, .v undef, .v undef, .v undef, .v undef, .v undef, .v undef, .v undef, .v undef, .v undef, .v undef, .v undef, .v undef, .v undef, .v undef, .v undef, .v undef, .v undef, .v undef, .v undef, .v undef, .v undef, .v undef, .v undef, .v undef, .v undef, .v undef, .v undef, .v undef, .v undef, .v undef, .v undef, .v undef, .v undef, .v undef, .v undef], []⟩ rfl ?_
   repeat' first | (with_reducible first | refine zA ?_ | refine zB ?_ | refine zF ?_ | refine zJ ?_) | ((with_reducible refine And.intro ?_ ?_); · exact Sq) | ((first | with_reducible refine zC fun KC J hJ hKC => ?_ | with_reducible refine zY rfl fun KC J hJ hKC => ?_ | (refine hKC _ _ _ _ _ (zD (h1) rfl rfl rfl ?_ ?_); (· exact Lq)) | (refine hKC _ _ _ _ _ (zD (c1) rfl rfl rfl ?_ ?_); (· exact Lq)) | (refine hKC _ _ _ _ _ (zD (c2) rfl rfl rfl ?_ ?_); (· exact Lq)) | (refine hKC _ _ _ _ _ (zD (h3) rfl rfl rfl ?_ ?_); (· exact Lq)) | (refine hKC _ _ _ _ _ (zD (g1) rfl rfl rfl ?_ ?_); (· exact Lq)) | (refine hKC _ _ _ _ _ (zD (h4) rfl rfl rfl ?_ ?_); (· exact Lq)) | (refine hKC _ _ _ _ _ (zD (h5) rfl rfl rfl ?_ ?_); (· exact Lq)) | (refine hKC _ _ _ _ _ (zD (h6) rfl rfl rfl ?_ ?_); (· exact Lq)) | (refine hKC _ _ _ _ _ (zD (n1) rfl rfl rfl ?_ ?_); (· exact Lq)) | (refine hKC _ _ _ _ _ (zD (n2) rfl rfl rfl ?_ ?_); (· exact Lq)) | (refine hKC _ _ _ _ _ (zD (z1) rfl rfl rfl ?_ ?_); (· exact Lq)) | (refine hKC _ _ _ _ _ (zD (z2) rfl rfl rfl ?_ ?_); (· exact Lq)) | (refine hKC _ _ _ _ _ (zD (z3) rfl rfl rfl ?_ ?_); (· exact Lq))); simp (maxSteps := 9999999) only [push_cast, seval, ↓reduceIte, q1, q2, q3, q4, q5, zBs (K := 16) (k := 16) rfl sp.ws, undef, beq_self_eq_true, bne_self_eq_false, hXr, hZr, hZ2, hZ3]) | ((first | with_reducible refine hJ _ _ ?_ | (with_reducible refine hJ _ _ ?_ ?_; · kernel_rfl)); clear hJ hKC KC J) | ((with_reducible refine zG ?_ ?_); · rfl) | ((with_reducible refine zH ?_ ?_); · rfl)
   refine zE ?_
   simp (maxSteps := 9999999) only [push_cast, seval, ↓reduceIte, show Tryz.f8.results = #[(.tmp 10)] from rfl]
   exact Lq
  ·unfold paU at h4
   rw [if_neg hb0] at h4
   obtain ⟨e, he⟩ : ∃ e, zCP xs ys q o A B = e := ⟨_, rfl⟩
   rw [he] at h4 hb0
   have he' : (e != 0) = true := by simpa using hb0
   simp only [zAO, zBC, spF] at c1 c2 h3 h4 g1 z1 z2 ⊢
   refine Fn.of (fn := Tryz.f8) (by kernel_rfl) rfl (by kernel_rfl) ⟨[.agg [.sl f 1 (zS ns), .sl g 1 (zQ us)], .agg [.v (.int .i64 sp.code), .v (.int .i64 sp.mem), .v (.int .i64 sp.stack), .v (.int .i64 sp.val), .sl false 1 (zM sp.ws)], .v (.int .i64 o), .agg [.v (.int .i64 a.v), .v (.int .i64 a.l), .sl fc 3 (zo a.code), .sl fm 2 (za a.mem), .sl fs 3 (zg a.stack), .sl fo 2 (za a.out)], .agg [.v (.int .i64 b.v), .v (.int .i64 b.l), .sl gc 3 (zo b.code), .sl gm 2 (za b.mem), .sl gs 3 (zg b.stack), .sl go 2 (za b.out)], .v undef, .v undef, .v undef, .v undef, .v undef, .v undef, .v undef, .v undef, .v undef, .v undef, .v undef, .v undef, .v undef, .v undef, .v undef, .v undef, .v undef, .v undef, .v undef, .v undef, .v undef, .v undef, .v undef, .v undef, .v undef, .v undef, .v undef, .v undef, .v undef, .v undef, .v undef, .v undef, .v undef, .v undef, .v undef, .v undef, .v undef, .v undef, .v undef, .v undef, .v undef, .v undef, .v undef, .v undef, .v undef, .v undef, .v undef, .v undef, .v undef, .v undef, .v undef, .v undef, .v undef, .v undef, .v undef, .v undef, .v undef, .v undef, .v undef, .v undef, .v undef, .v undef, .v undef, .v undef, .v undef, .v undef, .v undef, .v undef, .v undef, .v undef, .v undef, .v undef, .v undef, .v undef, .v undef, .v undef, .v undef, .v undef, .v undef, .v undef, .v undef, .v undef, .v undef, .v undef, .v undef, .v undef, .v undef, .v undef, .v undef, .v undef, .v undef, .v undef, .v undef, .v undef, .v undef, .v undef, .v undef, .v undef, .v undef, .v undef, .v undef, .v undef, .v undef, .v undef, .v undef, .v undef, .v undef, .v undef, .v undef, .v undef, .v undef, .v undef, .v undef, .v undef, .v undef, .v undef, .v undef, .v undef, .v undef, .v undef, .v undef, .v undef, .v undef, .v undef, .v undef, .v undef], []⟩ rfl ?_
   repeat' first | (with_reducible first | refine zA ?_ | refine zB ?_ | refine zb ?_ | refine zF ?_ | refine zJ ?_) | ((with_reducible refine And.intro ?_ ?_); · exact Sq) | ((first | with_reducible refine zC fun KC J hJ hKC => ?_ | with_reducible refine zY rfl fun KC J hJ hKC => ?_ | (refine hKC _ _ _ _ _ (zD (h1) rfl rfl rfl ?_ ?_); (· exact Lq)) | (refine hKC _ _ _ _ _ (zD (c1) rfl rfl rfl ?_ ?_); (· exact Lq)) | (refine hKC _ _ _ _ _ (zD (c2) rfl rfl rfl ?_ ?_); (· exact Lq)) | (refine hKC _ _ _ _ _ (zD (h3) rfl rfl rfl ?_ ?_); (· exact Lq)) | (refine hKC _ _ _ _ _ (zD (g1) rfl rfl rfl ?_ ?_); (· exact Lq)) | (refine hKC _ _ _ _ _ (zD (h4) rfl rfl rfl ?_ ?_); (· exact Lq)) | (refine hKC _ _ _ _ _ (zD (h6) rfl rfl rfl ?_ ?_); (· exact Lq)) | (refine hKC _ _ _ _ _ (zD (n1) rfl rfl rfl ?_ ?_); (· exact Lq)) | (refine hKC _ _ _ _ _ (zD (z1) rfl rfl rfl ?_ ?_); (· exact Lq)) | (refine hKC _ _ _ _ _ (zD (z3) rfl rfl rfl ?_ ?_); (· exact Lq))); simp (maxSteps := 9999999) only [push_cast, seval, ↓reduceIte, q1, q2, q3, q4, q5, zBs (K := 16) (k := 16) rfl sp.ws, undef, beq_self_eq_true, bne_self_eq_false, hXr, he']) | ((first | with_reducible refine hJ _ _ ?_ | (with_reducible refine hJ _ _ ?_ ?_; · kernel_rfl)); clear hJ hKC KC J) | ((with_reducible refine zG ?_ ?_); · rfl) | ((with_reducible refine zH ?_ ?_); · rfl)
   refine zE ?_
   simp (maxSteps := 9999999) only [push_cast, seval, ↓reduceIte, show Tryz.f8.results = #[(.tmp 10)] from rfl]
   exact Lq
 ·unfold stU at h3
  rw [if_neg hA0] at h3
  have hb0 : ¬ zCP xs ys q o A B = 0 := fun h => by
   obtain ⟨h1, h2, _⟩ := zGI.1 h
   exact hA0 (zJC.2 ⟨h1, h2⟩)
  unfold paU at h4
  rw [if_neg hb0] at h4
  obtain ⟨e, he⟩ : ∃ e, zCP xs ys q o A B = e := ⟨_, rfl⟩
  rw [he] at h4 hb0
  have he' : (e != 0) = true := by simpa using hb0
  obtain ⟨e2, he2⟩ : ∃ e, zCd xs ys q A = e := ⟨_, rfl⟩
  rw [he2] at h3 hA0
  have he2' : (e2 == 0) = false := by simpa using hA0
  have he3' : (e2 != 0) = true := by simpa using hA0
  simp only [zAO, zBC, spF] at c1 c2 h3 h4 ⊢
  refine Fn.of (fn := Tryz.f8) (by kernel_rfl) rfl (by kernel_rfl) ⟨[.agg [.sl f 1 (zS ns), .sl g 1 (zQ us)], .agg [.v (.int .i64 sp.code), .v (.int .i64 sp.mem), .v (.int .i64 sp.stack), .v (.int .i64 sp.val), .sl false 1 (zM sp.ws)], .v (.int .i64 o), .agg [.v (.int .i64 a.v), .v (.int .i64 a.l), .sl fc 3 (zo a.code), .sl fm 2 (za a.mem), .sl fs 3 (zg a.stack), .sl fo 2 (za a.out)], .agg [.v (.int .i64 b.v), .v (.int .i64 b.l), .sl gc 3 (zo b.code), .sl gm 2 (za b.mem), .sl gs 3 (zg b.stack), .sl go 2 (za b.out)], .v undef, .v undef, .v undef, .v undef, .v undef, .v undef, .v undef, .v undef, .v undef, .v undef, .v undef, .v undef, .v undef, .v undef, .v undef, .v undef, .v undef, .v undef, .v undef, .v undef, .v undef, .v undef, .v undef, .v undef, .v undef, .v undef, .v undef, .v undef, .v undef, .v undef, .v undef, .v undef, .v undef, .v undef, .v undef, .v undef, .v undef, .v undef, .v undef, .v undef, .v undef, .v undef, .v undef, .v undef, .v undef, .v undef, .v undef, .v undef, .v undef, .v undef, .v undef, .v undef, .v undef, .v undef, .v undef, .v undef, .v undef, .v undef, .v undef, .v undef, .v undef, .v undef, .v undef, .v undef, .v undef, .v undef, .v undef, .v undef, .v undef, .v undef, .v undef, .v undef, .v undef, .v undef, .v undef, .v undef, .v undef, .v undef, .v undef, .v undef, .v undef, .v undef, .v undef, .v undef, .v undef, .v undef, .v undef, .v undef, .v undef, .v undef, .v undef, .v undef, .v undef, .v undef, .v undef, .v undef, .v undef, .v undef, .v undef, .v undef, .v undef, .v undef, .v undef, .v undef, .v undef, .v undef, .v undef, .v undef, .v undef, .v undef, .v undef, .v undef, .v undef, .v undef, .v undef, .v undef, .v undef, .v undef, .v undef, .v undef, .v undef, .v undef, .v undef, .v undef, .v undef, .v undef], []⟩ rfl ?_
  repeat' first | (with_reducible first | refine zA ?_ | refine zB ?_ | refine zb ?_ | refine zF ?_ | refine zJ ?_) | ((with_reducible refine And.intro ?_ ?_); · exact Sq) | ((first | with_reducible refine zC fun KC J hJ hKC => ?_ | with_reducible refine zY rfl fun KC J hJ hKC => ?_ | (refine hKC _ _ _ _ _ (zD (h1) rfl rfl rfl ?_ ?_); (· exact Lq)) | (refine hKC _ _ _ _ _ (zD (c1) rfl rfl rfl ?_ ?_); (· exact Lq)) | (refine hKC _ _ _ _ _ (zD (c2) rfl rfl rfl ?_ ?_); (· exact Lq)) | (refine hKC _ _ _ _ _ (zD (h3) rfl rfl rfl ?_ ?_); (· exact Lq)) | (refine hKC _ _ _ _ _ (zD (h4) rfl rfl rfl ?_ ?_); (· exact Lq)) | (refine hKC _ _ _ _ _ (zD (h6) rfl rfl rfl ?_ ?_); (· exact Lq))); simp (maxSteps := 9999999) only [push_cast, seval, ↓reduceIte, q1, q2, q3, q4, q5, zBs (K := 16) (k := 16) rfl sp.ws, undef, beq_self_eq_true, bne_self_eq_false, he', he2', he3']) | ((first | with_reducible refine hJ _ _ ?_ | (with_reducible refine hJ _ _ ?_ ?_; · kernel_rfl)); clear hJ hKC KC J) | ((with_reducible refine zG ?_ ?_); · rfl) | ((with_reducible refine zH ?_ ?_); · rfl)
  refine zE ?_
  simp (maxSteps := 9999999) only [push_cast, seval, ↓reduceIte, show Tryz.f8.results = #[(.tmp 10)] from rfl]
  exact Lq
abbrev zGD : Kk := .int .i64
abbrev zRx : Kk := .sl zGD
theorem conf_int : Conf Tryz.prog (.ty 3) zGD := .int Tryz.underlying3
theorem zPj : Conf Tryz.prog (.ty 26) zRx := .sl Tryz.underlying26 (by kernel_rfl) (by decide) conf_int
theorem is_int {e : D} (h : Shape zGD [e]) : ∃ n, e = .v (.int .i64 n) := by obtain ⟨n, rfl, _⟩ := zKX h; exact ⟨n, rfl⟩
theorem zST {e : D} (h : Shape zRx [e]) : ∃ l, e = .sl false 1 (zM l) ∧ l.length ≤ maxLen := by
 obtain ⟨xs, rfl, h1, h2⟩ := zEC h
 obtain ⟨l, rfl⟩ := zCK (fun n : Int => [D.v (.int .i64 n)]) (fun x hx => by
  obtain ⟨e, rfl, he⟩ := zAI hx rfl
  obtain ⟨n, rfl⟩ := is_int he
  exact ⟨n, rfl⟩) h1
 exact ⟨l, rfl, by simpa using h2⟩
abbrev zUQ : Kk := .str
abbrev zRG : Kk := .sl zUQ
abbrev zUJ : Kk := .int .u32
abbrev zRy : Kk := .sl zUJ
abbrev zVG : Kk := .pair zRG (.pair zRy .unit)
theorem zRJ : Conf Tryz.prog (.ty 9) zUQ := .str Tryz.underlying9
theorem zQV : Conf Tryz.prog (.ty 22) zRG := .sl Tryz.underlying22 (by kernel_rfl) (by decide) zRJ
theorem zRd : Conf Tryz.prog (.ty 98) zUJ := .int Tryz.underlying98
theorem zQN : Conf Tryz.prog (.ty 23) zRy := .sl Tryz.underlying23 (by kernel_rfl) (by decide) zRd
theorem conf_lat : Conf Tryz.prog (.ty 25) (.st zVG) := .st Tryz.underlying25 (by kernel_rfl) (.pair rfl (by kernel_rfl) zQV (.pair rfl (by kernel_rfl) zQN .unit))
theorem zUG {e : D} (h : Shape zUQ [e]) : ∃ s : ByteArray, e = .v (.string s) ∧ s.size ≤ maxLen := zPQ h
theorem zTM {e : D} (h : Shape zRG [e]) : ∃ l, e = .sl false 1 (zS l) ∧ (∀ s ∈ l, s.size ≤ maxLen) ∧ l.length ≤ maxLen := by
 obtain ⟨xs, rfl, h1, h2⟩ := zEC h
 obtain ⟨l, rfl⟩ := zCK (fun s : { s : ByteArray // s.size ≤ maxLen } => [D.v (.string s.1)]) (fun x hx => by
  obtain ⟨e, rfl, he⟩ := zAI hx rfl
  obtain ⟨n, rfl, hn⟩ := zUG he
  exact ⟨⟨n, hn⟩, rfl⟩) h1
 refine ⟨l.map (·.1), by simp [zS, List.map_map]; rfl, fun s hs => ?_, by simpa using h2⟩
 obtain ⟨x, _, rfl⟩ := List.mem_map.1 hs
 exact x.2
theorem zUA {e : D} (h : Shape zUJ [e]) : ∃ u : Nat, e = .v (.int .u32 (uv u)) ∧ u < 2 ^ 32 := by
 obtain ⟨n, rfl, hw⟩ := zKX h
 have h2 : 0 ≤ n ∧ n < 4294967296 := by
  simp only [Lit.wf, Bool.and_eq_true, decide_eq_true_eq] at hw
  have e1 : IntKind.u32.min = 0 := rfl
  have e2 : IntKind.u32.max = 4294967295 := by decide
  omega
 refine ⟨n.toNat, ?_, by omega⟩
 rw [uv, Int.toNat_of_nonneg h2.1]
theorem zSV {e : D} (h : Shape zRy [e]) : ∃ l, e = .sl false 1 (zQ l) ∧ U32 l ∧ l.length ≤ maxLen := by
 obtain ⟨xs, rfl, h1, h2⟩ := zEC h
 obtain ⟨l, rfl⟩ := zCK (fun u : { u : Nat // u < 2 ^ 32 } => [D.v (.int .u32 (uv u.1))]) (fun x hx => by
  obtain ⟨e, rfl, he⟩ := zAI hx rfl
  obtain ⟨n, rfl, hn⟩ := zUA he
  exact ⟨⟨n, hn⟩, rfl⟩) h1
 refine ⟨l.map (·.1), by simp [zQ, List.map_map]; rfl, fun s hs => ?_, by simpa using h2⟩
 obtain ⟨x, _, rfl⟩ := List.mem_map.1 hs
 exact x.2
structure NsOk (ns : List ByteArray) : Prop where
 szs : Szs ns
 len : ns.length ≤ maxLen
structure UsOk (us : List Nat) : Prop where
 u32 : U32 us
 len : us.length ≤ maxLen
theorem is_lat {ds : List D} (h : Shape zVG ds) : ∃ ns us, D.agg ds = .agg [.sl false 1 (zS ns), .sl false 1 (zQ us)] ∧ NsOk ns ∧ UsOk us := by
 obtain ⟨a, b, rfl, h1, h2⟩ := zAD h
 obtain ⟨c, d, rfl, h3, h4⟩ := zAD h2
 cases zCi h4
 obtain ⟨e1, rfl, h1⟩ := zAI h1 rfl
 obtain ⟨e2, rfl, h3⟩ := zAI h3 rfl
 obtain ⟨ns, rfl, h5, h6⟩ := zTM h1
 obtain ⟨us, rfl, h7, h8⟩ := zSV h3
 exact ⟨ns, us, rfl, ⟨fun s hs => Nat.le_trans (h5 s hs) (by decide), h6⟩, ⟨h7, h8⟩⟩
abbrev zJB : Kk := .pair zGD (.pair zGD .unit)
theorem zOT {ds : List D} (h : Shape zJB ds) : ∃ p : Int × Int, ds = [.v (.int .i64 p.1), .v (.int .i64 p.2)] := by
 obtain ⟨a, b, rfl, h1, h2⟩ := zAD h
 obtain ⟨c, d, rfl, h3, h4⟩ := zAD h2
 cases zCi h4
 obtain ⟨e1, rfl, h1⟩ := zAI h1 rfl
 obtain ⟨e2, rfl, h3⟩ := zAI h3 rfl
 obtain ⟨n, rfl⟩ := is_int h1
 obtain ⟨m, rfl⟩ := is_int h3
 exact ⟨(n, m), rfl⟩
abbrev zMT : Kk := .pair zGD (.pair zGD (.pair zGD .unit))
abbrev zLr : Kk := .pair .bool (.pair zGD (.pair zGD .unit))
abbrev zVB : Kk := .pair (.st zJB) (.pair (.sl (.st zMT)) (.pair (.sl (.st zJB)) (.pair (.sl (.st zLr)) (.pair (.sl (.st zJB)) .unit))))
theorem zKJ : Conf Tryz.prog (.ty 34) (.st zJB) := .st Tryz.underlying34 (by kernel_rfl) (.pair rfl (by kernel_rfl) conf_int (.pair rfl (by kernel_rfl) conf_int .unit))
theorem zOC : Conf Tryz.prog (.ty 100) (.st zMT) := .st Tryz.underlying100 (by kernel_rfl) (.pair rfl (by kernel_rfl) conf_int (.pair rfl (by kernel_rfl) conf_int (.pair rfl (by kernel_rfl) conf_int .unit)))
theorem zPm : Conf Tryz.prog (.ty 104) (.st zLr) := .st Tryz.underlying104 (by kernel_rfl) (.pair rfl (by kernel_rfl) (.bool Tryz.underlying4) (.pair rfl (by kernel_rfl) conf_int (.pair rfl (by kernel_rfl) conf_int .unit)))
theorem zIP : Conf Tryz.prog (.ty 36) (.sl (.st zJB)) := .sl Tryz.underlying36 (by kernel_rfl) (by decide) zKJ
theorem zNE : Conf Tryz.prog (.ty 35) (.sl (.st zMT)) := .sl Tryz.underlying35 (by kernel_rfl) (by decide) zOC
theorem zNN : Conf Tryz.prog (.ty 37) (.sl (.st zLr)) := .sl Tryz.underlying37 (by kernel_rfl) (by decide) zPm
theorem conf_state : Conf Tryz.prog (.ty 39) (.st zVB) := .st Tryz.underlying39 (by kernel_rfl) (.pair rfl (by kernel_rfl) zKJ (.pair rfl (by kernel_rfl) zNE (.pair rfl (by kernel_rfl) zIP (.pair rfl (by kernel_rfl) zNN (.pair rfl (by kernel_rfl) zIP .unit)))))
theorem zTT {ds : List D} (h : Shape zMT ds) : ∃ p : Int × Int × Int, ds = [.v (.int .i64 p.1), .v (.int .i64 p.2.1), .v (.int .i64 p.2.2)] := by
 obtain ⟨a, b, rfl, h1, h2⟩ := zAD h
 obtain ⟨c, d, rfl, h3, h4⟩ := zAD h2
 obtain ⟨e, g, rfl, h5, h6⟩ := zAD h4
 cases zCi h6
 obtain ⟨e1, rfl, h1⟩ := zAI h1 rfl
 obtain ⟨e2, rfl, h3⟩ := zAI h3 rfl
 obtain ⟨e3, rfl, h5⟩ := zAI h5 rfl
 obtain ⟨n, rfl⟩ := is_int h1
 obtain ⟨m, rfl⟩ := is_int h3
 obtain ⟨k, rfl⟩ := is_int h5
 exact ⟨(n, m, k), rfl⟩
theorem zRY {ds : List D} (h : Shape zLr ds) : ∃ p : Bool × Int × Int, ds = [.v (.bool p.1), .v (.int .i64 p.2.1), .v (.int .i64 p.2.2)] := by
 obtain ⟨a, b, rfl, h1, h2⟩ := zAD h
 obtain ⟨c, d, rfl, h3, h4⟩ := zAD h2
 obtain ⟨e, g, rfl, h5, h6⟩ := zAD h4
 cases zCi h6
 obtain ⟨e1, rfl, h1⟩ := zAI h1 rfl
 obtain ⟨e2, rfl, h3⟩ := zAI h3 rfl
 obtain ⟨e3, rfl, h5⟩ := zAI h5 rfl
 obtain ⟨n, rfl⟩ := zOQ h1
 obtain ⟨m, rfl⟩ := is_int h3
 obtain ⟨k, rfl⟩ := is_int h5
 exact ⟨(n, m, k), rfl⟩
theorem zMH {e : D} (h : Shape (.sl (.st zJB)) [e]) : ∃ l, e = .sl false 2 (za l) := by
 obtain ⟨xs, rfl, h1, h2⟩ := zEC h
 obtain ⟨l, rfl⟩ := zCK (fun p : Int × Int => [D.v (.int .i64 p.1), .v (.int .i64 p.2)]) (fun x hx => zOT (zGT hx)) h1
 exact ⟨l, rfl⟩
theorem zPl {e : D} (h : Shape (.sl (.st zMT)) [e]) : ∃ l, e = .sl false 3 (zo l) := by
 obtain ⟨xs, rfl, h1, h2⟩ := zEC h
 obtain ⟨l, rfl⟩ := zCK (fun p : Int × Int × Int => [D.v (.int .i64 p.1), .v (.int .i64 p.2.1), .v (.int .i64 p.2.2)]) (fun x hx => zTT (zGT hx)) h1
 exact ⟨l, rfl⟩
theorem zRI {e : D} (h : Shape (.sl (.st zLr)) [e]) : ∃ l, e = .sl false 3 (zg l) := by
 obtain ⟨xs, rfl, h1, h2⟩ := zEC h
 obtain ⟨l, rfl⟩ := zCK (fun p : Bool × Int × Int => [D.v (.bool p.1), .v (.int .i64 p.2.1), .v (.int .i64 p.2.2)]) (fun x hx => zRY (zGT hx)) h1
 exact ⟨l, rfl⟩
theorem is_stateK {ds : List D} (h : Shape zVB ds) : ∃ s : Sta, D.agg ds = .agg (zAO false false false false s) := by
 obtain ⟨a, b, rfl, h1, h2⟩ := zAD h
 obtain ⟨c, d, rfl, h3, h4⟩ := zAD h2
 obtain ⟨e, g, rfl, h5, h6⟩ := zAD h4
 obtain ⟨i, j, rfl, h7, h8⟩ := zAD h6
 obtain ⟨k, l, rfl, h9, h10⟩ := zAD h8
 cases zCi h10
 obtain ⟨p, rfl⟩ := zOT (zGT h1)
 obtain ⟨e1, rfl, h3⟩ := zAI h3 rfl
 obtain ⟨e2, rfl, h5⟩ := zAI h5 rfl
 obtain ⟨e3, rfl, h7⟩ := zAI h7 rfl
 obtain ⟨e4, rfl, h9⟩ := zAI h9 rfl
 obtain ⟨l1, rfl⟩ := zPl h3
 obtain ⟨l2, rfl⟩ := zMH h5
 obtain ⟨l3, rfl⟩ := zRI h7
 obtain ⟨l4, rfl⟩ := zMH h9
 exact ⟨⟨p.1, p.2, l1, l2, l3, l4⟩, rfl⟩
abbrev zQg : Kk := .pair zGD (.pair zGD (.pair zGD (.pair zGD (.pair zRx .unit))))
theorem conf_space : Conf Tryz.prog (.ty 28) (.st zQg) := .st Tryz.underlying28 (by kernel_rfl) (.pair rfl (by kernel_rfl) conf_int (.pair rfl (by kernel_rfl) conf_int (.pair rfl (by kernel_rfl) conf_int (.pair rfl (by kernel_rfl) conf_int (.pair rfl (by kernel_rfl) zPj .unit)))))
theorem is_space {ds : List D} (h : Shape zQg ds) : ∃ sp : Sp, D.agg ds = .agg (spF false sp) := by
 obtain ⟨a1, b1, rfl, h1, g1⟩ := zAD h
 obtain ⟨a2, b2, rfl, h2, g2⟩ := zAD g1
 obtain ⟨a3, b3, rfl, h3, g3⟩ := zAD g2
 obtain ⟨a4, b4, rfl, h4, g4⟩ := zAD g3
 obtain ⟨a5, b5, rfl, h5, g5⟩ := zAD g4
 cases zCi g5
 obtain ⟨e1, rfl, h1⟩ := zAI h1 rfl
 obtain ⟨e2, rfl, h2⟩ := zAI h2 rfl
 obtain ⟨e3, rfl, h3⟩ := zAI h3 rfl
 obtain ⟨e4, rfl, h4⟩ := zAI h4 rfl
 obtain ⟨e5, rfl, h5⟩ := zAI h5 rfl
 obtain ⟨n1, rfl⟩ := is_int h1
 obtain ⟨n2, rfl⟩ := is_int h2
 obtain ⟨n3, rfl⟩ := is_int h3
 obtain ⟨n4, rfl⟩ := is_int h4
 obtain ⟨ws, rfl, _⟩ := zST h5
 exact ⟨⟨n1, n2, n3, n4, ws⟩, rfl⟩
end Go.Proofs.YtabliglgeiajlaaGreat.AM
