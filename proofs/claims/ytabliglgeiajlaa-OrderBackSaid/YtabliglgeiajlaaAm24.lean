/- The abstract machine: loops over functions. -/
import Derived.Test.YtabliglgeiajlaaAm23
import Derived.RangeFuncIn
import Derived.RangeFuncRecord
set_option linter.unusedSimpArgs false
set_option linter.unusedVariables false
namespace Go.Proofs.Ytabliglgeiajlaa.AM
open Go Go.RowKit

/-- The record of a loop, with the temporaries of its activation. -/
def recS (fr : List D) (r : Loop) : Slot := .ent ⟨0, none, 0, fr, .loop r⟩

theorem leS_refl : ∀ l : List Slot, leS l l
  | [] => trivial
  | a :: l => ⟨.inr (.inl rfl), leS_refl l⟩

theorem Wr.putObj (w : World) (l : Nat) (o : Obj) : Wr w (w.putObj l o) l where
  size := by simp [World.putObj]
  keep := fun j _ hne => World.putObj_heap_other hne
  os := rfl
  tape := rfl
  output := rfl
theorem updρ_id {ρ : Nat → Nat × Nat} {k : Nat} : updρ ρ k (ρ k) = ρ := by
  funext j; unfold updρ; split
  · rename_i h; rw [h]
  · rfl

theorem Hp.self {B : Base} {σ : List Slot} {ρ : Nat → Nat × Nat} {w : World} (h : Hp B σ ρ w) : Hp (base0 w B.N0 σ ρ) σ ρ w where
  ent := h.ent
  inj := h.inj
  nf := h.nf
  own := fun k hk => .inl ⟨k, hk, rfl⟩
  size := Nat.le_refl _
  os := rfl
  tape := rfl
  output := rfl
  base := fun _ _ _ => rfl
  n0 := fun b hb => Nat.lt_of_lt_of_le (h.n0 b hb) h.size
  m0 := Nat.le_refl _
  hist := fun k g hk => ⟨hk, fun _ h => h⟩

/-- A record that is told. -/
theorem Hp.recOf {B : Base} {σ : List Slot} {ρ : Nat → Nat × Nat} {w : World} (hp : Hp B σ ρ w) {k : Nat} {fr : List D} {r : Loop} (hk : σ[k]? = some (recS fr r)) :
    ∃ cs : Array Value, w.heap[(ρ k).1]? = some (.loop { r with tmps := cs }) ∧ cs.size = fr.length ∧ (∀ (j : Nat) (d : D), fr[j]? = some d → ∃ u, cs[j]? = some u ∧ Rp B σ ρ w d u) ∧
      ∀ r' : Loop, Move B σ ρ w (σ.set k (recS fr r')) ρ (w.putObj (ρ k).1 (.loop { r' with tmps := cs })) ∧ Hp B (σ.set k (recS fr r')) ρ (w.putObj (ρ k).1 (.loop { r' with tmps := cs })) := by
  obtain ⟨cs, o, h1, h2, h3, h4⟩ := hp.ent k _ hk
  have h2' : o = .loop { r with tmps := cs } := h2
  subst h2'
  have hlt : (ρ k).1 < w.heap.size := (Array.getElem?_eq_some_iff.1 h1).1
  refine ⟨cs, h1, h3, fun j d hd => let ⟨u, a1, _, a3⟩ := h4 j d hd; ⟨u, a1, a3⟩, fun r' => ?_⟩
  have := put_ent hp (k := k) (e' := ⟨0, none, 0, fr, .loop r'⟩) (b := (ρ k).1) (cap := (ρ k).2) (Wr.putObj w (ρ k).1 (.loop { r' with tmps := cs })) (.inr ⟨_, hk, .inl ⟨Nat.le_refl _, rfl⟩⟩)
    ⟨cs, _, World.putObj_heap_same hlt, rfl, h3, fun j d hd => let ⟨u, a1, _, a3⟩ := h4 j d hd; ⟨u, a1, (fun h => by cases h), a3⟩⟩
  rw [show ((ρ k).1, (ρ k).2) = ρ k from rfl, updρ_id] at this
  exact this

/-- Where a key of the base that is of its generation lies. -/
theorem Hp.at {B : Base} {σ : List Slot} {ρ : Nat → Nat × Nat} {w : World} (hp : Hp B σ ρ w) {k : Nat} {e e0 : Ent} (h0 : B.σ0[k]? = some (.ent e0)) (h : σ[k]? = some (.ent e)) (hg : e.gen = e0.gen) : ρ k = B.ρ0 k := by
  have h1 := (hp.hist k e0.gen ⟨_, h0, Nat.le_refl _⟩).2 (ρ k) (hg ▸ Tb.of h)
  rw [Tb.of h0] at h1
  exact (Option.some.inj h1).symm

/-! ### Less of a store -/
def WeakS (n : Nat) (s t : List Slot) : Prop := ∃ ks : List Nat, ks.Nodup ∧ (∀ k, k < n → ks[k]? = some k) ∧ leS (pick ks s) t
theorem Rel.weakS {B : Base} {s : St} {a : Act} {w : World} {n : Nat} {t : List Slot} (h : Rel B s a w) (hw : WeakS n s.σ t) (hn : ∀ k g, used B.σ0 k g → k < n) : ∃ fr, Rel B ⟨fr, t⟩ a w := by
  obtain ⟨ks, h1, h2, h3⟩ := hw
  exact ⟨_, (h.pick h1 (fun k g hk => h2 k (hn k g hk))).le (t := ⟨s.fr.map (ren (mOf ks)), t⟩) (leF_refl _) h3⟩

/-! ### One round -/
/-- What a call of yield does. -/
def YieldT (P : Program) (kk : Nat) (ρ : Nat → Nat × Nat) (vs : Array Value) (w : World) (R : Ending → World → Prop) : Prop :=
  ∃ fn tmps assign body, (Instr.yield (ρ kk).1 vs).run P w = .ok (.round (ρ kk).1 fn tmps assign body) w ∧ RoundIn (FW none) 0 P (ρ kk).1 fn tmps assign body w R
/-- Called at args, with the store ext (the record: kk), yield returns b, and the store is out then. -/
def Yld (P : Program) (kk : Nat) (args : List D) (ext : List Slot) (b : Bool) (out : List Slot) : Prop :=
  ∀ (N0 : Nat → Prop) (ρ : Nat → Nat × Nat) (w : World) (vs : Array Value), Hp (base0 w N0 ext ρ) ext ρ w → vs.size = args.length →
    (∀ (j : Nat) (d : D) (u : Value), args[j]? = some d → vs[j]? = some u → Rp (base0 w N0 ext ρ) ext ρ w d u) →
    YieldT P kk ρ vs w (fun e w' => ∃ v ρ', e = .returned v ∧ Hp (base0 w N0 ext ρ) out ρ' w' ∧ Rp (base0 w N0 ext ρ) out ρ' w' (.v (.bool b)) v)

def setsP (fr : List D) : List (Nat × D) → List D
  | [] => fr
  | p :: l => setsP (fr.set p.1 p.2) l
theorem FrOk.setsP {B : Base} {σ : List Slot} {ρ : Nat → Nat × Nat} {w : World} (l : List (Nat × Value)) : ∀ {fr : List D} {tmps : Array Value} (ds : List D), FrOk B ⟨fr, σ⟩ ρ tmps w → ds.length = l.length →
    (∀ (j : Nat) (d : D) (p : Nat × Value), ds[j]? = some d → l[j]? = some p → Rp B σ ρ w d p.2) → FrOk B ⟨AM.setsP fr ((l.map (·.1)).zip ds), σ⟩ ρ (l.foldl (fun t p => t.setIfInBounds p.1 p.2) tmps) w := by
  induction l with
  | nil => intro fr tmps ds h _ _; exact h
  | cons p l ih =>
    intro fr tmps ds h hl hr
    cases ds with
    | nil => simp at hl
    | cons d ds =>
      have := FrOk.put (a := ⟨tmps, []⟩) h (some p.1) (hr 0 d p rfl rfl)
      exact ih ds this (by simpa using hl) (fun j d' p' h1 h2 => hr (j + 1) d' p' (by simpa using h1) (by simpa using h2))

def exitJump : Exit → Option (Option Code)
  | .normal => some none
  | .ret => some (some .ret)
  | .exit id => some (some (.exit id))
  | _ => none
def afterRound (r : Loop) (jump : Option Code) : Loop := { r with state := if jump.isNone then .ready else .done, pending := jump }

theorem Yld.of {P : Program} {kk : Nat} {args : List D} {ext : List Slot} {b : Bool} {out : List Slot} {fr : List D} {r : Loop} (hk : ext[kk]? = some (recS fr r)) (hready : r.state = .ready) (hps : r.params.size = args.length)
    (fr1 : List D) (hassign : ∀ l, AWP P (some l) r.assign ⟨setsP fr (r.params.toList.zip args), ext⟩ (fun e s => e = .normal ∧ s = ⟨fr1, ext⟩))
    (ks : List Nat) (slot : Nat) (hn : (ks ++ [slot]).Nodup) (hkk : kk ∉ ks) (hks : ∀ k ∈ ks, k < ext.length)
    (σu : List Slot) (hσu : pick ks (ext.set kk (recS fr { r with state := .busy })) = σu) (fr2 : List D) (hfr2 : fr1.map (ren (mOf ks)) = fr2)
    (hbody : ∀ l, AWP P (some l) r.body ⟨fr2, σu⟩ (fun e s => ∃ σv jump, WeakS ks.length s.σ σv ∧ σv.length = ks.length ∧ exitJump e = some jump ∧ jump.isNone = b ∧
      (setsF (ext.set kk (recS fr { r with state := .busy })) (callSets (ks ++ [slot]) σv))[kk]? = some (recS fr { r with state := .busy }) ∧
      out = (setsF (ext.set kk (recS fr { r with state := .busy })) (callSets (ks ++ [slot]) σv)).set kk (recS fr (afterRound r jump)))) : Yld P kk args ext b out := by
  intro N0 ρ w vs hp hvs hrep
  obtain ⟨cs, hl, hsz, hcs, hturn⟩ := hp.recOf hk
  refine ⟨_, _, _, _, run_yield hl (by rw [hvs]; exact hps.symm), ?_⟩
  have hkkl : kk < ext.length := (List.getElem?_eq_some_iff.1 hk).1
  refine roundIn_of_wpIn trivial ?_
  have hfr : FrOk (base0 w N0 ext ρ) ⟨setsP fr (r.params.toList.zip args), ext⟩ ρ ((r.params.zip vs).foldl (fun tmps (t, a) => tmps.setIfInBounds t a) cs) w := by
    have h := FrOk.setsP (B := base0 w N0 ext ρ) (σ := ext) (ρ := ρ) (w := w) (r.params.toList.zip vs.toList) (fr := fr) (tmps := cs) args ⟨hsz.symm, hcs⟩ (by simp [hvs, hps]) (fun j d p h1 h2 => by
      rw [List.getElem?_zip_eq_some] at h2
      exact hrep j d p.2 h1 (by simpa using h2.2))
    rw [List.map_fst_zip (by simp [hvs, hps])] at h
    rw [← Array.foldl_toList, Array.toList_zip]
    exact h
  refine hassign (ρ kk).1 (base0 w N0 ext ρ) _ w ⟨ρ, hp, hfr, [], rfl, List.nodup_nil, fun D hD => by cases hD⟩ _ (fun e st' a1 w1 hK hr1 => ?_)
  obtain ⟨rfl, rfl⟩ := hK
  obtain ⟨ρ1, hp1, hfr1, Ds, hDs, hnd, hDm⟩ := hr1
  obtain ⟨cs1, hl1, _, _, hturn1⟩ := hp1.recOf hk
  have hat1 : ρ1 kk = ρ kk := hp1.at hk hk rfl
  rw [hat1] at hl1 hturn1
  refine ⟨_, run_beginRound hl1 hready, ?_⟩
  obtain ⟨m1, hp2⟩ := hturn1 { r with state := .busy }
  have hnks : ks.Nodup := (List.nodup_append.1 hn).1
  obtain ⟨hcp, T⟩ := hand hp2 hnks
  generalize hw2 : w1.putObj (ρ kk).1 (.loop { ({ r with state := .busy } : Loop) with tmps := cs1 }) = w2 at m1 hp2 hcp T
  show r.body.wpIn (FW (some (ρ kk).1)) 0 P _ a1 w2
  let B2 : Base := { base0 w2 (hideN (base0 w N0 ext ρ) (ext.set kk (recS fr { r with state := .busy })) ρ1 ks) (pick ks (ext.set kk (recS fr { r with state := .busy }))) (pickρ ks ρ1) with m0 := 0 }
  have hcp' : Hp B2 (pick ks (ext.set kk (recS fr { r with state := .busy }))) (pickρ ks ρ1) w2 := ⟨hcp.ent, hcp.inj, hcp.nf, hcp.own, hcp.size, hcp.os, hcp.tape, hcp.output, hcp.base, hcp.n0, Nat.zero_le _, hcp.hist⟩
  have hdef : ∀ D ∈ Ds, w2.heap[D]? = some (.deferred (some [])) := fun D hD => by
    have h1 := (hDm D hD).2
    rw [← hw2, World.putObj_heap_other (by rintro rfl; rw [hl1] at h1; cases h1)]
    exact h1
  subst hσu
  subst hfr2
  refine hbody (ρ kk).1 B2 a1 w2 ⟨pickρ ks ρ1, hcp', ⟨by simpa using hfr1.1, fun t d hd => ?_⟩, Ds, hDs, hnd, fun D hD => ⟨Nat.zero_le _, hdef D hD⟩⟩ _ (fun e st' a3 w3 hK hr3 => ?_)
  · obtain ⟨d0, hd0, rfl⟩ := map_get hd
    obtain ⟨u, h1, h2⟩ := hfr1.2 t d0 hd0
    exact ⟨u, h1, T.ren (m1.rp h2)⟩
  · obtain ⟨σv, jump, hweak, hlen, hej, hb, hrec, hout⟩ := hK
    obtain ⟨fr3, ρ3, hp3, _, _⟩ := hr3.weakS hweak (fun k g hu => by
      obtain ⟨s, hs, _⟩ := hu
      have := (List.getElem?_eq_some_iff.1 hs).1
      simpa [B2, base0, pick] using this)
    have hp3' : Hp (base0 w2 (hideN (base0 w N0 ext ρ) (ext.set kk (recS fr { r with state := .busy })) ρ1 ks) (pick ks (ext.set kk (recS fr { r with state := .busy }))) (pickρ ks ρ1)) σv ρ3 w3 :=
      ⟨hp3.ent, hp3.inj, hp3.nf, hp3.own, hp3.size, hp3.os, hp3.tape, hp3.output, hp3.base, hp3.n0, Nat.le_refl _, hp3.hist⟩
    obtain ⟨_, hp4, _⟩ := back hp2 hn (by simpa using hks) (.inl (by omega)) (by omega) (by omega) hp3'
    obtain ⟨cs4, hl4, _, _, hturn4⟩ := hp4.recOf hrec
    have hat4 := hp4.at hk hrec rfl
    have hat4' : (callρ (ks ++ [slot]) σv.length ρ1 ρ3 kk) = ρ kk := hat4
    rw [hat4'] at hl4 hturn4
    have hend := run_endRound (P := P) jump hl4
    obtain ⟨_, hp5⟩ := hturn4 (afterRound r jump)
    rw [← hout] at hp5
    have hfin : ∃ v w', (Instr.endRound (ρ kk).1 jump).run P w3 = .ok v w' ∧ (∃ v' ρ', Ending.returned v = .returned v' ∧ Hp (base0 w N0 ext ρ) out ρ' w' ∧ Rp (base0 w N0 ext ρ) out ρ' w' (.v (.bool b)) v') :=
      ⟨_, _, hend, _, _, rfl, hp5, by rw [hb]; exact .fro _ _ (.v _)⟩
    cases e with
    | normal => cases hej; exact hfin
    | ret => cases hej; exact hfin
    | exit id => cases hej; exact hfin
    | goto t => cases hej
    | panic c => cases hej
    | outgrown => cases hej
end Go.Proofs.Ytabliglgeiajlaa.AM
