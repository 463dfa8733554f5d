import Derived.Test.YtmkcmfamdnjmdaaZnpesWWords
import Derived.OpenShut
set_option linter.unusedSimpArgs false
set_option linter.unusedVariables false
namespace Go.Proofs.Ytmkcmfamdnjmdaa.Pl
open Go.RowKit Go.Proofs.YtmkcmfamdnjmdaaW.PrintWords
section
variable {α β : Type} {g f : Nat → Option α} {r : α}
theorem ev_succ (h : Ev (fun k => g (k + 1)) r) : Ev g r := Ev.step (fun _ => rfl) h
theorem ev_some {x : α} (h : x = r) : Ev (fun _ => some x) r := h ▸ Ev.now x
theorem ev_pos {c : Prop} [Decidable c] (hc : c) (h : Ev g r) : Ev (fun k => if c then g k else f k) r := by
  simp only [if_pos hc]; exact h
theorem ev_neg {c : Prop} [Decidable c] (hc : ¬ c) (h : Ev f r) : Ev (fun k => if c then g k else f k) r := by
  simp only [if_neg hc]; exact h
theorem ev_ite {c : Prop} [Decidable c] (h : c → Ev g r) (h' : ¬ c → Ev f r) : Ev (fun k => if c then g k else f k) r := by
  by_cases hc : c
  · exact ev_pos hc (h hc)
  · exact ev_neg hc (h' hc)
theorem ev_bind {q : Nat → Option β} {F : Nat → β → Option α} {b : β} (h : Ev q b) (k : Ev (fun n => F n b) r) : Ev (fun n => (q n).bind (F n)) r := Ev.bind h k
theorem ev_bind0 {q : Option β} {F : Nat → β → Option α} {b : β} (h : q = some b) (k : Ev (fun n => F n b) r) : Ev (fun n => q.bind (F n)) r := by
  subst h; exact k
theorem ev_let {b : β} {F : Nat → β → Option α} (k : Ev (fun n => F n b) r) : Ev (fun n => (some b).bind (F n)) r := k
end
theorem wrap64_id {x : Int} (h0 : -9223372036854775808 ≤ x) (h1 : x < 9223372036854775808) : wrap64 x = x := by
  unfold wrap64; omega
theorem wrapU64_id {x : Int} (h0 : 0 ≤ x) (h1 : x < 18446744073709551616) : IntKind.u64.wrap x = x := by
  rw [IntKind.wrap_u64]; omega
theorem rd_nat (l : List Int) (i : Nat) : rd l (i : Int) = l.getD i 0 := by simp [rd]
theorem rd_mid (pre rest : List Int) (c : Int) : rd (pre ++ c :: rest) (pre.length : Int) = c := by
  rw [rd_nat, List.getD_eq_getElem?_getD]; simp
/-- Bytes. -/
def Byte (x : Int) : Prop := 0 ≤ x ∧ x < 256
def Bytes (l : List Int) : Prop := ∀ x ∈ l, Byte x
theorem Bytes.nil : Bytes [] := fun _ h => by simp at h
theorem Bytes.cons {x : Int} {l : List Int} (h : Byte x) (hl : Bytes l) : Bytes (x :: l) := fun y hy => by
  rcases List.mem_cons.1 hy with rfl | hy
  · exact h
  · exact hl y hy
theorem Bytes.head {x : Int} {l : List Int} (h : Bytes (x :: l)) : Byte x := h x (by simp)
theorem Bytes.tail {x : Int} {l : List Int} (h : Bytes (x :: l)) : Bytes l := fun y hy => h y (by simp [hy])
theorem Bytes.append {a b : List Int} (ha : Bytes a) (hb : Bytes b) : Bytes (a ++ b) := fun y hy => by
  rcases List.mem_append.1 hy with hy | hy
  · exact ha y hy
  · exact hb y hy
theorem Bytes.left {a b : List Int} (h : Bytes (a ++ b)) : Bytes a := fun y hy => h y (List.mem_append_left _ hy)
theorem bytes_of_wf {l : List Int} (h : ∀ x ∈ l, (Lit.int .u8 x).wf = true) : Bytes l := fun x hx => by
  have := bounds_u8 (h x hx)
  unfold Byte
  omega
end Go.Proofs.Ytmkcmfamdnjmdaa.Pl
