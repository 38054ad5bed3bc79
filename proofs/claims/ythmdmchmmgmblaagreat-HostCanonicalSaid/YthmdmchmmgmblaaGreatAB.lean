/- More words: strings put together, new slices out of lent ones, function literals, copies. -/
import Derived.Test.YthmdmchmmgmblaaGreatAA
import Derived.Lib.Bytealg
import Derived.Laws.Externs
namespace Go.Abs
open Go Go.RowKit

section
variable {P : Program} {o : Oper}
theorem q_sadd {xt yt : TypeId} {x y : Operand} {s t : Str} (ho : o.op = .binOp .add xt x y yt) (hc : (s.length : Int) + (t.length : Int) ≤ 9223372036854775807) :
    QS P [(x, EqA (strV s)), (y, EqA (strV t))] o (EqA (strV (s ++ t))) := fun a w bad _ nd => by
  have hx : a.eval x = .string ⟨s.toArray⟩ := nd.h0
  have hy : a.eval y = .string ⟨t.toArray⟩ := nd.tl.h0
  refine Runs.value (v := strV (s ++ t)) ?_ ⟨rfl, Same.refl w⟩
  have hsz : ¬ ((((⟨s.toArray⟩ : ByteArray).size + (⟨t.toArray⟩ : ByteArray).size : Nat) : Int) > IntKind.i64.max) := by
    rw [bsz, bsz]
    have : IntKind.i64.max = 9223372036854775807 := rfl
    rw [this]; omega
  have hap : (⟨s.toArray⟩ : ByteArray) ++ (⟨t.toArray⟩ : ByteArray) = ⟨(s ++ t).toArray⟩ := by
    apply ByteArray.ext
    simp
  simp only [execOp, ho, hx, hy, eqGuard, binOp, Op.stringOp, if_neg hsz, hap, strV, Sem.run_bind, Sem.run_pure, Result.andThen_ok]
  rfl
/-- A function of the program as a value. -/
theorem Needs.f {env : Env} {α β : Type} {g : FuncId} {as : α → List Asn} {res : β → Asn} {p : α → Option β} {r} (hg : callable P g = true) (hc : ∀ x y, p x = some y → Con P g [] (as x) (RA (res y))) (k : Needs env r) : Needs env ((.func g, FnA P as res p) :: r) :=
  Needs.cons (fun _ _ _ _ _ => ⟨g, [], [], rfl, hg, trivial, fun x y h => by rw [List.append_nil]; exact hc x y h⟩) k
theorem Lend.ptr {fg O l l'} (h : LendL fg O l l') : Lend fg O (PtrA l) (PtrA l') := fun _ _ s ⟨b, o, cs, e, h1, h2, k, h3⟩ => ⟨b, o, cs, e, h1, fun x => h2 (.inr x), h.all2 s k, h3⟩

theorem q_nilNil {xt yt : TypeId} {x : Operand} (ho : o.op = .binOp .eql xt x (.const (.slice none 0 0)) yt) (he : (elOf P xt).isSome = true) : QS P [(x, EqA (.slice none 0 0))] o (EqA (.bool true)) := fun a w bad _ nd => by
  have hv : a.eval x = .slice none 0 0 := nd.h0
  obtain ⟨⟨e, n⟩, he⟩ := Option.isSome_iff_exists.1 he
  obtain ⟨hu, _⟩ := elOf_spec he
  have hc : a.eval (.const (.slice none 0 0)) = .slice none 0 0 := rfl
  refine Runs.value (v := .bool true) ?_ ⟨rfl, Same.refl w⟩
  simp [execOp, ho, hv, hc, eqGuard, Lib.run_eql_slice_nil w xt e _ _ _ 0 0 hu]
/-! ### A new slice out of what is only read -/
/-- A result of the call's own, told as one that is not written. -/
theorem Con.free {f : FuncId} {as : List Asn} {α : Type} {e : TypeId} {kd : Kd α} {zs : List α} (h : Con P f [] as (RApp e kd zs)) : Con P f [] as (RA (SlcA kd zs)) := fun w fg vs s k => (h w fg vs s k).mono fun en w' ⟨v, O', A, he, ⟨v', hO, hA⟩, s', fr, hv⟩ => by
  subst hO hA
  obtain ⟨rfl, _⟩ := hv
  have hr := SlE.ro (O := []) s'
  exact ⟨_, [], _, he, ⟨rfl, rfl⟩, ⟨by simp [keys], by simp [keys], s'.lt, by simp⟩, ⟨fr.os, fr.tape, fr.output, fr.size, fun b hb nb => ⟨(fr.keep b hb nb).1, by simp [keys]⟩⟩, hr⟩
/-- A call that only reads the frame's own, and hands back a new slice. -/
theorem q_lendNew {fg : Bad} {O : List Ent} {f : FuncId} {xs : List Operand} {ts : Array TypeId} {as bs : List Asn} {α : Type} {e : TypeId} {kd : Kd α} {zs : List α} (ho : o.op = .call { callee := .value (.func f), args := xs.toArray, argTypes := ts })
    (hf : callable P f = true) (hc : Con P f [] bs (RApp e kd zs)) (hl : xs.length = as.length) (hL : LendL fg O as bs) (hF : ∀ x, ∀ A ∈ kd.c x, Flat A) : QO P fg O (xs.zip as) o (SlcA kd zs) := fun a w s nd => by
  have ha := hL.all2 s (Opd.args nd hl)
  refine Runs.enter (exec_call ho hf) ((hc w fg (xs.map a.eval) ⟨by simp [keys], by simp [keys], s.lt, by simp⟩ (by rw [badOf_nil]; exact ha)).mono ?_)
  rintro en w' ⟨v, O', A, he, ⟨v', rfl, rfl⟩, s', f', hv⟩
  obtain ⟨rfl, _⟩ := hv
  refine ⟨_, he, ?_, f'.os, f'.tape, f'.output, f'.size, fun b hb => (f'.keep b hb (by simp [keys])).1⟩
  rcases s'.holds _ (List.mem_singleton_self _) with ⟨hz, a', rfl⟩ | ⟨g, hg, cs, hk, hown⟩
  · subst hz; exact ⟨a', 0, rfl, Nat.le_refl _, fun _ => rfl, .inl rfl⟩
  · refine ownsRow_ro hown (bad := badOf O fg) (hk.flat fun A hA => ?_) fun b hb hbad => ?_
    · obtain ⟨x, _, hx⟩ := List.mem_flatMap.1 hA
      exact hF x A hx
    · have hbg : b = g := by have := ownB_ownBlock hg; rw [hb] at this; simpa using this
      subst hbg
      have hlt := s.bad_lt b hbad
      exact (f'.keep b hlt (by simp [keys])).2 (by simp [keys, SlE, hg])
/-- Is a function the library's IndexByteString, which has no body? -/
theorem q_indexByte {f : FuncId} {fn : Func} {x y : Operand} {ts : Array TypeId} {s : Str} {c : Int} (ho : o.op = .call { callee := .value (.func f), args := #[x, y], argTypes := ts }) (hf : P.funcs[f]? = some fn) (hn : (fn.name == "runtime.NumGoroutine") = false) (hb : fn.body = none)
    (h1 : (Extern.findNext fn).isNone = true) (h2 : Extern.find fn = some Extern.BytealgIndexByte.indexByte) : QS P [(x, EqA (strV s)), (y, EqA (.int .u8 c))] o (EqA (.int .i64 (Lib.indexByte s c.toNat.toUInt8))) := fun a w bad _ nd => by
  have hx : a.eval x = .string ⟨s.toArray⟩ := nd.h0
  have hy : a.eval y = .int .u8 c := nd.tl.h0
  have h1' : Extern.findNext fn = none := by simpa using h1
  have hr := Lib.run_indexByteString (P := P) ⟨s.toArray⟩ c w
  have hn' : fn.name ≠ "runtime.NumGoroutine" := by simpa using hn
  have hcf := run_callFunc_extern (P := P) (f := f) (fn := fn) hf hn (by rw [hb]; rfl) h1' h2 #[.string ⟨s.toArray⟩, .int .u8 c] w
  rw [hr] at hcf
  have hfu : a.eval (.func f) = .func (.func f) #[] #[] := rfl
  refine Runs.value (v := .int .i64 (Lib.indexByte s c.toNat.toUInt8)) ?_ ⟨rfl, Same.refl w⟩
  simp [execOp, ho, resolve, hfu, Deferred.ofValue, invoke, hx, hy, hcf]
end
end Go.Abs
