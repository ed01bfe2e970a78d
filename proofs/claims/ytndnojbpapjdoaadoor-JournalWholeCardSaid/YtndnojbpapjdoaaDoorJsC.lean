/- The contracts of package journal, with answers given. -/
import Derived.Test.YtndnojbpapjdoaaDoorJsB
import Derived.Test.YtndnojbpapjdoaaDoorJrP
import Derived.Test.YtndnojbpapjdoaaDoorJrQ
import Derived.Test.YtndnojbpapjdoaaDoorJrO
import Derived.Test.YtndnojbpapjdoaaDoorJrW
import Derived.Test.YtndnojbpapjdoaaDoorSpc
set_option linter.unusedSimpArgs false
set_option linter.unusedVariables false
set_option linter.unusedSectionVars false
namespace Go.Proofs.YtndnojbpapjdoaaDoor
open Go.Sp Go.RowKit Go.Fld Go.Sha Go.Dr Go.Jr

theorem live_jok {j : Jr.J} {d : Dr.Drum} {K : Nat} (h : Live j d K) (hK : K ≤ 4294967295) : JOk d j := ⟨h.len.2.2.1, h.len.2.2.2, h.bears.area, h.bears.place, by
  have h1 := h.serial
  have h2 := h.gen
  have h3 := h.epoch
  unfold above
  apply decide_eq_false
  show ¬ (4294967295 < max j.head.serial (max j.head.gen j.head.epoch))
  omega⟩
section
variable (E : Nat → Addr) (b db : Nat) (d d' : Dr.Drum) (j j' : Jr.J) (w0 w : World) (L : List Asn) (k : Nat) (bv : Value) (l : List UInt8)
theorem format_good (hq : Jr.format d l = (0, j', d')) (hlen : l.length ≤ 140737488355328) (hd : d.ok) (hl : d.left ≤ 4611686018427387904) (hT : Table w0) (hE : JrErrs E w0) (hS : Sat w0 w (isDrum db d :: L)) (hr : Under w0 L bv l) :
    Calls Tryd.prog 39 #[.pointer (some ⟨db, 0, none⟩), bv] w fun r w' => ∃ b, r = .returned (.tuple #[.pointer (some ⟨b, 0, none⟩), .nilIface]) ∧ Sat w0 w' (isJ w0 b db j' :: isDrum db d' :: L) :=
  (format_any E db d w0 w L bv l hlen hd hl hT hE hS hr).mono fun r w' h => by unfold FPost at h; rw [hq] at h; exact h
theorem format_bad (hq : Jr.format d l = (k + 1, j', d')) (hlen : l.length ≤ 140737488355328) (hd : d.ok) (hl : d.left ≤ 4611686018427387904) (hT : Table w0) (hE : JrErrs E w0) (hS : Sat w0 w (isDrum db d :: L)) (hr : Under w0 L bv l) :
    Calls Tryd.prog 39 #[.pointer (some ⟨db, 0, none⟩), bv] w fun r w' => r = .returned (.tuple #[.pointer none, .iface 182 (.pointer (some (E (k + 1))))]) ∧ Sat w0 w' (isDrum db d' :: L) :=
  (format_any E db d w0 w L bv l hlen hd hl hT hE hS hr).mono fun r w' h => by unfold FPost at h; rw [hq] at h; exact h
theorem open_good (hq : Jr.open_ d = (0, j', d')) (hd : d.ok) (hl : d.left ≤ 4611686018427387904) (hT : Table w0) (hE : JrErrs E w0) (hS : Sat w0 w (isDrum db d :: L)) :
    Calls Tryd.prog 38 #[.pointer (some ⟨db, 0, none⟩)] w fun r w' => ∃ b, r = .returned (.tuple #[.pointer (some ⟨b, 0, none⟩), .nilIface]) ∧ Sat w0 w' (isJ w0 b db j' :: isDrum db d' :: L) :=
  (open_any E db d w0 w L hd hl hT hE hS).mono fun r w' h => by unfold FPost at h; rw [hq] at h; exact h
theorem open_bad (hq : Jr.open_ d = (k + 1, j', d')) (hd : d.ok) (hl : d.left ≤ 4611686018427387904) (hT : Table w0) (hE : JrErrs E w0) (hS : Sat w0 w (isDrum db d :: L)) :
    Calls Tryd.prog 38 #[.pointer (some ⟨db, 0, none⟩)] w fun r w' => r = .returned (.tuple #[.pointer none, .iface 182 (.pointer (some (E (k + 1))))]) ∧ Sat w0 w' (isDrum db d' :: L) :=
  (open_any E db d w0 w L hd hl hT hE hS).mono fun r w' h => by unfold FPost at h; rw [hq] at h; exact h
theorem append_to (hq : j.append d l = (k, j', d')) (hlen : l.length ≤ 140737488355328) (hd : d.ok) (hl : d.left ≤ 4611686018427387904) (hn : 10 ≤ d.n) (hj : JOk d j) (hT : Table w0) (hE : JrErrs E w0) (hS : Sat w0 w (isJ w0 b db j :: isDrum db d :: L)) (hr : Under w0 L bv l) :
    Calls Tryd.prog 40 #[.pointer (some ⟨b, 0, none⟩), bv] w fun r w' => r = .returned (erv E k) ∧ Sat w0 w' (isJ w0 b db j' :: isDrum db d' :: L) :=
  (append_any E b db d j w0 w L bv l hlen hd hl hn hj hT hE hS hr).mono fun r w' h => by unfold JPost at h; rw [hq] at h; exact h
theorem compact_to (hq : j.compact d l = (k, j', d')) (hlen : l.length ≤ 140737488355328) (hd : d.ok) (hl : d.left ≤ 4611686018427387904) (hn : 10 ≤ d.n) (hj : JOk d j) (hT : Table w0) (hE : JrErrs E w0) (hS : Sat w0 w (isJ w0 b db j :: isDrum db d :: L)) (hr : Under w0 L bv l) :
    Calls Tryd.prog 48 #[.pointer (some ⟨b, 0, none⟩), bv] w fun r w' => r = .returned (erv E k) ∧ Sat w0 w' (isJ w0 b db j' :: isDrum db d' :: L) :=
  (compact_any E b db d j w0 w L bv l hlen hd hl hn hj hT hE hS hr).mono fun r w' h => by unfold JPost at h; rw [hq] at h; exact h
/-- All records, as a list that may be read for good. -/
theorem records_to {rs : List (List UInt8)} (hrs : j.records = rs) (hn : rs.length ≤ 1048576) (hrl : ∀ l ∈ rs, l.length ≤ 2000) (hS : Sat w0 w (isJ w0 b db j :: L)) :
    Calls Tryd.prog 42 #[.pointer (some ⟨b, 0, none⟩)] w fun r w' => ∃ a c, r = .returned (.slice a rs.length c) ∧ Sat w0 w' (RoL w0 (.slice a rs.length c) rs :: isJ w0 b db j :: L) := by
  subst hrs
  refine (records_any b db j w0 w L hn hrl hS).mono ?_
  rintro r w' ⟨a, n, c, rfl, h⟩
  have h1 := h.rol
  obtain ⟨a', c', hv, _⟩ := h1.rol_len
  cases hv
  exact ⟨a, c, rfl, h1⟩
end
end Go.Proofs.YtndnojbpapjdoaaDoor
