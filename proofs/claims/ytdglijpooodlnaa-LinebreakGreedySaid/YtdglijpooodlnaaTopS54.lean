/- A list of strings opened. -/
import Derived.Test.YtdglijpooodlnaaTopC
import Derived.ChangeMaps5
namespace Go.Proofs.Ytdglijpooodlnaa
open Go.ChangeShapes Go.WideShapes Go.ChangeAt Go.RowKit Go.Deep

def RStr {H : Type} (s : ByteArray) (d : DataW H) : Prop := d = .lit (.string s.data.toList) ∧ s.size ≤ maxLen
theorem rd_str {H : Type} {enc : TypeId × Value → H} {W : World} : ∀ n cs (d : DataW H) pl, cs.length = strEl.m → DataW.trod enc Try.prog W 0 (fun _ => true) true n strEl.e cs = some (d, pl) → ∃ x, cs = strEl.E x ∧ RStr x d := by
  intro n cs d pl _ h
  obtain ⟨s, rfl, hx, hs⟩ := DataW.trod_string Try.underlying9 h
  simp only [Prod.mk.injEq] at hx
  exact ⟨s, rfl, hx.1, hs⟩

end Go.Proofs.Ytdglijpooodlnaa
