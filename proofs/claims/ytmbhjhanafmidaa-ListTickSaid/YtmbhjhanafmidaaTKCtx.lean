/- A tool of this work: what stands in the context, cut short. -/
import Lean
open Lean Elab Tactic Meta
elab "ctx" : tactic => do
  for g in (← getGoals) do
    g.withContext do
      let mut s := m!""
      for d in (← getLCtx) do
        unless d.isImplementationDetail do
          let t ← instantiateMVars d.type
          let f ← ppExpr t
          let str := f.pretty 300
          if str.length < 700 && str != "Value" && !d.userName.hasMacroScopes && !d.userName.isInternal && d.userName != `i0 && d.userName != `hi && d.userName != `hz0 && d.userName != `hz1 && d.userName != `hz2 && d.userName != `j0 && d.userName != `ki && d.userName != `kz0 && d.userName != `kz1 && d.userName != `kz2 then s := s ++ m!"{d.userName} : {str}\n"
      let f ← ppExpr (← instantiateMVars (← g.getType))
      let str := f.pretty 200
      logInfo (s ++ m!"⊢ {(str.take 3000).toString} ... {(str.drop (str.length - 1300)).toString}")
