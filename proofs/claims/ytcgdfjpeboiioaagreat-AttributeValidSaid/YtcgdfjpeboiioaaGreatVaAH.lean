import Derived.Test.YtcgdfjpeboiioaaGreatVaAG
namespace Go.Abs
open Go Go.RowKit
inductive Lf where
  | i (x : Int)
  | b (x : Bool)
  deriving DecidableEq
def Lf.k : Lf → Bool
  | .i _ => true
  | .b _ => false
variable {P : Program}
theorem Con.freeT {f : FuncId} {as : List Asn} {α : Type} {e e2 : TypeId} {kd : Kd α} {zss : List (List α)} (h : Con P f [] as (RTab e e2 kd zss)) : Con P f [] as (RA (SlcA (kSl kd) zss)) := fun w fg vs s k => (h w fg vs s k).mono fun en w' ⟨v, O', A, he, ⟨g, hO, hA⟩, s', fr, hv⟩ => by
  subst hO hA
  obtain ⟨rfl, _⟩ := hv
  have hr := TbE.ro (Or := []) s'
  exact ⟨_, [], _, he, ⟨rfl, rfl⟩, ⟨by simp [keys], by simp [keys], s'.lt, by simp⟩, ⟨fr.os, fr.tape, fr.output, fr.size, fun b hb nb => ⟨(fr.keep b hb nb).1, by simp [keys]⟩⟩, hr⟩
theorem WS.free {o : Oper} {α : Type} {nd : List (Operand × Asn)} {Oc : List Ent} {e : TypeId} {kd : Kd α} {zs : List α} (h : WS P Oc nd o (RApp e kd zs)) : WS P Oc nd o (fun O' A => O' = [] ∧ A = SlcA kd zs) := fun fg a w s n => by
  refine (h fg a w s n).mono ?_
  rintro v w' ⟨O', A, ⟨v', rfl, rfl⟩, s', fr, hv⟩
  obtain ⟨rfl, _⟩ := hv
  have hr := SlE.ro (O := []) s'
  exact ⟨[], _, ⟨rfl, rfl⟩, ⟨by simp [keys], by simp [keys], s'.lt, by simp⟩, ⟨fr.os, fr.tape, fr.output, fr.size, fun b hb nb => ⟨(fr.keep b hb nb).1, by simp [keys]⟩⟩, hr⟩
section
variable {c : Cx} {env : Env} {O : List Ent} {code : Code} {Q : Post}
end
end Go.Abs
