/-
  Contracts of the functions that the law reaches.
-/
import Derived.Test.YthgecppfgdadiaaL13
import Derived.Test.YthgecppfgdadiaaL9
namespace Go.Proofs.Ythgecppfgdadiaa
open Go Go.Proofs Go.AL
set_option linter.unusedSimpArgs false
set_option linter.unusedVariables false

theorem pmul_g {a b : List RI} {q r : List Int} (ha : RP (2 ^ 30) (2 ^ 35) a) (hb : RP (2 ^ 30) (2 ^ 35) b) (eq : ps (pv a) = ps q) (er : ps (pv b) = ps r) : AC Try.prog 13 [cw a, cw b] none [cp (pmul q r)] := by
  have h := pmul_ok a b ha hb
  rwa [cp_ps (q := pmul q r) (by rw [ps_pmul, ps_pmul, eq, er])] at h

theorem padd_g {a b : List RI} {q r : List Int} (ha : RP (2 ^ 30) (2 ^ 35) a) (hb : RP (2 ^ 30) (2 ^ 35) b) (eq : ps (pv a) = ps q) (er : ps (pv b) = ps r) : AC Try.prog 15 [cw a, cw b] none [cp (padd q r)] := by
  have h := padd_ok a b (ha.mono (by omega) (by omega)) (hb.mono (by omega) (by omega))
  rwa [cp_ps (q := padd q r) (by rw [ps_padd, ps_padd, eq, er])] at h

theorem psub_g {a b : List RI} {q r : List Int} (ha : RP (2 ^ 30) (2 ^ 35) a) (hb : RP (2 ^ 30) (2 ^ 35) b) (eq : ps (pv a) = ps q) (er : ps (pv b) = ps r) : AC Try.prog 17 [cw a, cw b] none [cp (padd q (pscale (-1) r))] := by
  have h := psub_ok a b (ha.mono (by omega) (by omega)) hb
  rwa [cp_ps (q := padd q (pscale (-1) r)) (by rw [ps_padd, ps_pscale, ps_padd, ps_pscale, eq, er])] at h

theorem pneg_g {a : List RI} {q : List Int} (ha : RP (2 ^ 30) (2 ^ 35) a) (eq : ps (pv a) = ps q) : AC Try.prog 18 [cw a] none [cp (pscale (-1) q)] := by
  have h := pneg_ok a ha
  rwa [cp_ps (q := pscale (-1) q) (by rw [ps_pscale, ps_pscale, eq])] at h

theorem pscale_g {a : List RI} {q : List Int} {c : RI} (ha : RP (2 ^ 30) (2 ^ 35) a) (hc : Sz (2 ^ 35) c) (eq : ps (pv a) = ps q) : AC Try.prog 24 [cw a, cr c] none [cp (pscale (iv c) q)] := by
  have h := pscale_ok a c ha hc
  rwa [cp_ps (q := pscale (iv c) q) (by rw [ps_pscale, ps_pscale, eq])] at h

theorem pderiv_g {a : List RI} {q : List Int} (ha : RP (2 ^ 30) (2 ^ 35) a) (eq : ps (pv a) = ps q) : AC Try.prog 20 [cw a] none [cp (pderiv q)] := by
  have h := pderiv_ok a ha
  rwa [cp_ps (q := pderiv q) (by rw [ps_pderiv, ps_pderiv, eq])] at h

theorem pnorm_g {a : List RI} {q : List Int} (ha : RP (2 ^ 30) (2 ^ 35) a) (eq : ps (pv a) = ps q) : AC Try.prog 16 [cw a] none [cp q] := by
  have h := pnorm_ok a (ha.mono (by omega) (by omega))
  rwa [cp_ps eq] at h

theorem pdeg_g {a : List RI} {q : List Int} (ha : RP (2 ^ 30) (2 ^ 35) a) (eq : ps (pv a) = ps q) : AC Try.prog 19 [cw a] none [ci ((tz q : Int) - 1)] := by
  rw [← tz_eq_of_cf (ps_eq eq)]; exact pdeg_ok a (ha.mono (by omega) (by omega))

theorem cn_ext {p q : List Int} (h : ∀ k, cf p k = cf q k) : cn p = cn q := forms_eq h

theorem same_g {q r : List Int} (ha : PB (2 ^ 40) (2 ^ 43) q) (hb : PB (2 ^ 40) (2 ^ 43) r) (e : ps q = ps r) : AC Try.prog 14 [cp q, cp r] none [cb true] := by
  have := same_ok (cn q) (cn r) (rp_cn ha) (rp_cn hb)
  rw [decide_eq_true (cn_ext (ps_eq e))] at this; exact this

/-- What a law may be handed. -/
def Raw (p : List RI) : Prop := p.length ≤ 9223372036854775807 ∧ ∀ c ∈ p, Sz (9223372036854775807) c

theorem great_sub {ps : List (List RI)} (h : gp ps = false) {p : List RI} (hp : p ∈ ps) (hr : Raw p) : RP 40 200 p := by
  unfold gp at h
  rw [List.any_eq_false] at h
  have := h p hp
  simp only [Bool.or_eq_true, decide_eq_true_eq, not_or, Bool.not_eq_true] at this
  refine ⟨by omega, fun c hc => ⟨?_, (hr.2 c hc).2⟩⟩
  have h2 := this.2
  unfold gi at h2
  rw [List.any_eq_false] at h2
  have := h2 c hc
  simp only [decide_eq_true_eq] at this
  omega

theorem great2_ok (a b : List RI) (ha : Raw a) (hb : Raw b) : AC Try.prog 12 [.iv (.sl (polys [a, b]))] none [cb (gp [a, b])] :=
  sgreat_ok [a, b] (by simp) (by
    intro p hp
    simp only [List.mem_cons, List.not_mem_nil, or_false] at hp
    rcases hp with rfl | rfl
    · exact ⟨ha.1, fun c hc => (ha.2 c hc).1⟩
    · exact ⟨hb.1, fun c hc => (hb.2 c hc).1⟩)

end Go.Proofs.Ythgecppfgdadiaa
