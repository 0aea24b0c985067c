/- The numbers under which this dump holds the mutex's functions and types, and that it holds them. -/
import Derived.Test.YtlfodhejpbjfcaaProg
import Derived.Conc.RwLib
import Derived.Conc.MuData
import Derived.Conc.MuLone
import Derived.KernelRfl
namespace Go.Proofs.Ytlfodhejpbjfcaa
abbrev muLink : Go.Conc.Locks.MuLink := { lock := 59, unlock := 60, ilock := 86, iunlock := 87, lockSlow := 97, unlockSlow := 99, disable := 65, enable := 66, acquire := 78, relMerge := 64, cas32 := 96, add32 := 98, tMutex := 156, tIMutex := 154, tPMutex := 187, tPIMutex := 197, tPI32 := 199, tUP := 167, tNoCopy := 136, tU32 := 142 }
theorem muLib : Go.Conc.Locks.MuLib Try.prog muLink :=
  ⟨Try.func59, Try.func60, Try.func86, Try.func87, Try.func65, Try.func66, Try.func78, Try.func64, Try.func96, Try.func98, Try.underlying154, Try.runUnderlying154, Try.sizeOf154, Try.isAgg154, Try.zeroValue154, Try.underlying156, Try.runUnderlying156, Try.sizeOf156, Try.isAgg156, Try.zeroValue156, Try.underlying187, Try.runUnderlying187, Try.sizeOf187, Try.isAgg187, Try.zeroValue187, Try.underlying197, Try.runUnderlying197, Try.sizeOf197, Try.isAgg197, Try.zeroValue197, Try.underlying199, Try.runUnderlying199, Try.sizeOf199, Try.isAgg199, Try.zeroValue199, Try.underlying167, Try.runUnderlying167, Try.sizeOf167, Try.isAgg167, Try.zeroValue167, Try.underlying136, Try.runUnderlying136, Try.sizeOf136, Try.isAgg136, Try.zeroValue136, Try.underlying21, Try.runUnderlying21, Try.sizeOf21, Try.isAgg21, Try.zeroValue21, (by kernel_rfl)⟩
end Go.Proofs.Ytlfodhejpbjfcaa
