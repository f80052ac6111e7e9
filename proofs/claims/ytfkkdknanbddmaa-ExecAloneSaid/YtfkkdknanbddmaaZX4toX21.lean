import Derived.Test.YtfkkdknanbddmaaZM0toX3
set_option linter.all false
/- A round that is executed: a step. -/
namespace Go.Sh
open Go Go.Proofs
variable [Con]
def xstO (t n : Int) (x : XE) (s : MS) : Out Ob := Out.pre True (Out.pre True (Out.ite (ieq x.9 0) (Out.pre ((((0 : Int) ≤ t ∧ t ≤ (100000 : Int)) ∧ ((0 : Int) ≤ n ∧ n ≤ (100000 : Int)) ∧ (-1099511627776 : Int) ≤ x.3 ∧ x.3 ≤ (1099511627776 : Int)) ∧ True) (Out.pre ((List.length s.3 = List.length s.3 ∧ (0 : Int) ≤ s.4 ∧ s.4 ≤ (4611686018427387904 : Int)) ∧ True) (Out.ite x.7 (Out.pre True (Out.ite (!ieq (cutI (peek s.3 (2 * n + 5 + 2 * t + 3 * x.3 + 2)) 0 12) x.8) (Out.ret (AVal.bool true) [some (Entry.cells [AVal.int .i64 t, AVal.int .i64 n, AVal.int .i64 x.1, AVal.int .i64 x.2, AVal.int .i64 x.3, AVal.int .i64 x.4, AVal.int .i64 x.5, AVal.int .i64 x.6, AVal.bool x.7, AVal.int .i64 x.8, AVal.int .i64 x.9, AVal.int .u64 (peek s.3 (2 * n + 5 + 2 * t + 3 * x.3 + 2)), AVal.int .u64 x.11]), some (Entry.cells [AVal.int .i64 s.1, AVal.int .i64 s.2, AVal.slice 2 0 (List.length s.3) 1, AVal.int .i64 (s.4 + 1), AVal.int .i64 1, AVal.int .i64 (2 * n + 5 + 2 * t + 3 * x.3 + 2), AVal.int .u64 (peek s.3 (2 * n + 5 + 2 * t + 3 * x.3 + 2)), AVal.int .u64 (peek s.3 (2 * n + 5 + 2 * t + 3 * x.3 + 2)), AVal.bool (inB s.3 (2 * n + 5 + 2 * t + 3 * x.3 + 2))]), some (Entry.ints (some .u64) s.3)]) (Out.pre True (Out.ite (ieq (cutI (peek s.3 (2 * n + 5 + 2 * t + 3 * x.3 + 2)) 49 3) 2) (Out.ret (AVal.bool false) [some (Entry.cells [AVal.int .i64 t, AVal.int .i64 n, AVal.int .i64 x.1, AVal.int .i64 x.2, AVal.int .i64 x.3, AVal.int .i64 x.4, AVal.int .i64 x.5, AVal.int .i64 x.6, AVal.bool x.7, AVal.int .i64 x.8, AVal.int .i64 1, AVal.int .u64 (peek s.3 (2 * n + 5 + 2 * t + 3 * x.3 + 2)), AVal.int .u64 x.11]), some (Entry.cells [AVal.int .i64 s.1, AVal.int .i64 s.2, AVal.slice 2 0 (List.length s.3) 1, AVal.int .i64 (s.4 + 1), AVal.int .i64 1, AVal.int .i64 (2 * n + 5 + 2 * t + 3 * x.3 + 2), AVal.int .u64 (peek s.3 (2 * n + 5 + 2 * t + 3 * x.3 + 2)), AVal.int .u64 (peek s.3 (2 * n + 5 + 2 * t + 3 * x.3 + 2)), AVal.bool (inB s.3 (2 * n + 5 + 2 * t + 3 * x.3 + 2))]), some (Entry.ints (some .u64) s.3)]) (Out.ite (ieq (cutI (peek s.3 (2 * n + 5 + 2 * t + 3 * x.3 + 2)) 49 3) 3) (Out.ret (AVal.bool false) [some (Entry.cells [AVal.int .i64 t, AVal.int .i64 n, AVal.int .i64 x.1, AVal.int .i64 x.2, AVal.int .i64 x.3, AVal.int .i64 x.4, AVal.int .i64 x.5, AVal.int .i64 x.6, AVal.bool x.7, AVal.int .i64 x.8, AVal.int .i64 5, AVal.int .u64 (peek s.3 (2 * n + 5 + 2 * t + 3 * x.3 + 2)), AVal.int .u64 x.11]), some (Entry.cells [AVal.int .i64 s.1, AVal.int .i64 s.2, AVal.slice 2 0 (List.length s.3) 1, AVal.int .i64 (s.4 + 1), AVal.int .i64 1, AVal.int .i64 (2 * n + 5 + 2 * t + 3 * x.3 + 2), AVal.int .u64 (peek s.3 (2 * n + 5 + 2 * t + 3 * x.3 + 2)), AVal.int .u64 (peek s.3 (2 * n + 5 + 2 * t + 3 * x.3 + 2)), AVal.bool (inB s.3 (2 * n + 5 + 2 * t + 3 * x.3 + 2))]), some (Entry.ints (some .u64) s.3)]) (Out.ite (ieq (cutI (peek s.3 (2 * n + 5 + 2 * t + 3 * x.3 + 2)) 49 3) 4) (Out.ret (AVal.bool false) [some (Entry.cells [AVal.int .i64 t, AVal.int .i64 n, AVal.int .i64 x.1, AVal.int .i64 x.2, AVal.int .i64 x.3, AVal.int .i64 x.4, AVal.int .i64 x.5, AVal.int .i64 x.6, AVal.bool x.7, AVal.int .i64 x.8, AVal.int .i64 8, AVal.int .u64 (peek s.3 (2 * n + 5 + 2 * t + 3 * x.3 + 2)), AVal.int .u64 x.11]), some (Entry.cells [AVal.int .i64 s.1, AVal.int .i64 s.2, AVal.slice 2 0 (List.length s.3) 1, AVal.int .i64 (s.4 + 1), AVal.int .i64 1, AVal.int .i64 (2 * n + 5 + 2 * t + 3 * x.3 + 2), AVal.int .u64 (peek s.3 (2 * n + 5 + 2 * t + 3 * x.3 + 2)), AVal.int .u64 (peek s.3 (2 * n + 5 + 2 * t + 3 * x.3 + 2)), AVal.bool (inB s.3 (2 * n + 5 + 2 * t + 3 * x.3 + 2))]), some (Entry.ints (some .u64) s.3)]) (Out.ret (AVal.bool true) [some (Entry.cells [AVal.int .i64 t, AVal.int .i64 n, AVal.int .i64 x.1, AVal.int .i64 x.2, AVal.int .i64 x.3, AVal.int .i64 x.4, AVal.int .i64 x.5, AVal.int .i64 x.6, AVal.bool x.7, AVal.int .i64 x.8, AVal.int .i64 x.9, AVal.int .u64 (peek s.3 (2 * n + 5 + 2 * t + 3 * x.3 + 2)), AVal.int .u64 x.11]), some (Entry.cells [AVal.int .i64 s.1, AVal.int .i64 s.2, AVal.slice 2 0 (List.length s.3) 1, AVal.int .i64 (s.4 + 1), AVal.int .i64 1, AVal.int .i64 (2 * n + 5 + 2 * t + 3 * x.3 + 2), AVal.int .u64 (peek s.3 (2 * n + 5 + 2 * t + 3 * x.3 + 2)), AVal.int .u64 (peek s.3 (2 * n + 5 + 2 * t + 3 * x.3 + 2)), AVal.bool (inB s.3 (2 * n + 5 + 2 * t + 3 * x.3 + 2))]), some (Entry.ints (some .u64) s.3)]))))))) (Out.pre True (Out.ite (ieq (cutI (peek s.3 (2 * n + 5 + 2 * t + 3 * x.3 + 2)) 49 3) 2) (Out.ret (AVal.bool false) [some (Entry.cells [AVal.int .i64 t, AVal.int .i64 n, AVal.int .i64 x.1, AVal.int .i64 x.2, AVal.int .i64 x.3, AVal.int .i64 x.4, AVal.int .i64 x.5, AVal.int .i64 x.6, AVal.bool x.7, AVal.int .i64 x.8, AVal.int .i64 1, AVal.int .u64 (peek s.3 (2 * n + 5 + 2 * t + 3 * x.3 + 2)), AVal.int .u64 x.11]), some (Entry.cells [AVal.int .i64 s.1, AVal.int .i64 s.2, AVal.slice 2 0 (List.length s.3) 1, AVal.int .i64 (s.4 + 1), AVal.int .i64 1, AVal.int .i64 (2 * n + 5 + 2 * t + 3 * x.3 + 2), AVal.int .u64 (peek s.3 (2 * n + 5 + 2 * t + 3 * x.3 + 2)), AVal.int .u64 (peek s.3 (2 * n + 5 + 2 * t + 3 * x.3 + 2)), AVal.bool (inB s.3 (2 * n + 5 + 2 * t + 3 * x.3 + 2))]), some (Entry.ints (some .u64) s.3)]) (Out.ite (ieq (cutI (peek s.3 (2 * n + 5 + 2 * t + 3 * x.3 + 2)) 49 3) 3) (Out.ret (AVal.bool false) [some (Entry.cells [AVal.int .i64 t, AVal.int .i64 n, AVal.int .i64 x.1, AVal.int .i64 x.2, AVal.int .i64 x.3, AVal.int .i64 x.4, AVal.int .i64 x.5, AVal.int .i64 x.6, AVal.bool x.7, AVal.int .i64 x.8, AVal.int .i64 5, AVal.int .u64 (peek s.3 (2 * n + 5 + 2 * t + 3 * x.3 + 2)), AVal.int .u64 x.11]), some (Entry.cells [AVal.int .i64 s.1, AVal.int .i64 s.2, AVal.slice 2 0 (List.length s.3) 1, AVal.int .i64 (s.4 + 1), AVal.int .i64 1, AVal.int .i64 (2 * n + 5 + 2 * t + 3 * x.3 + 2), AVal.int .u64 (peek s.3 (2 * n + 5 + 2 * t + 3 * x.3 + 2)), AVal.int .u64 (peek s.3 (2 * n + 5 + 2 * t + 3 * x.3 + 2)), AVal.bool (inB s.3 (2 * n + 5 + 2 * t + 3 * x.3 + 2))]), some (Entry.ints (some .u64) s.3)]) (Out.ite (ieq (cutI (peek s.3 (2 * n + 5 + 2 * t + 3 * x.3 + 2)) 49 3) 4) (Out.ret (AVal.bool false) [some (Entry.cells [AVal.int .i64 t, AVal.int .i64 n, AVal.int .i64 x.1, AVal.int .i64 x.2, AVal.int .i64 x.3, AVal.int .i64 x.4, AVal.int .i64 x.5, AVal.int .i64 x.6, AVal.bool x.7, AVal.int .i64 x.8, AVal.int .i64 8, AVal.int .u64 (peek s.3 (2 * n + 5 + 2 * t + 3 * x.3 + 2)), AVal.int .u64 x.11]), some (Entry.cells [AVal.int .i64 s.1, AVal.int .i64 s.2, AVal.slice 2 0 (List.length s.3) 1, AVal.int .i64 (s.4 + 1), AVal.int .i64 1, AVal.int .i64 (2 * n + 5 + 2 * t + 3 * x.3 + 2), AVal.int .u64 (peek s.3 (2 * n + 5 + 2 * t + 3 * x.3 + 2)), AVal.int .u64 (peek s.3 (2 * n + 5 + 2 * t + 3 * x.3 + 2)), AVal.bool (inB s.3 (2 * n + 5 + 2 * t + 3 * x.3 + 2))]), some (Entry.ints (some .u64) s.3)]) (Out.ret (AVal.bool true) [some (Entry.cells [AVal.int .i64 t, AVal.int .i64 n, AVal.int .i64 x.1, AVal.int .i64 x.2, AVal.int .i64 x.3, AVal.int .i64 x.4, AVal.int .i64 x.5, AVal.int .i64 x.6, AVal.bool x.7, AVal.int .i64 x.8, AVal.int .i64 x.9, AVal.int .u64 (peek s.3 (2 * n + 5 + 2 * t + 3 * x.3 + 2)), AVal.int .u64 x.11]), some (Entry.cells [AVal.int .i64 s.1, AVal.int .i64 s.2, AVal.slice 2 0 (List.length s.3) 1, AVal.int .i64 (s.4 + 1), AVal.int .i64 1, AVal.int .i64 (2 * n + 5 + 2 * t + 3 * x.3 + 2), AVal.int .u64 (peek s.3 (2 * n + 5 + 2 * t + 3 * x.3 + 2)), AVal.int .u64 (peek s.3 (2 * n + 5 + 2 * t + 3 * x.3 + 2)), AVal.bool (inB s.3 (2 * n + 5 + 2 * t + 3 * x.3 + 2))]), some (Entry.ints (some .u64) s.3)])))))))) (Out.ite (ieq x.9 1) (Out.pre True (Out.pre (List.length s.3 = List.length s.3 ∧ (0 : Int) ≤ s.4 ∧ s.4 ≤ (4611686018427387904 : Int)) (Out.pre True (Out.pre True (Out.ite (ieq (cutI (peek s.3 (cutI x.10 12 9)) 25 18) (cutI x.10 21 18)) (Out.ite (ieq (cutI (peek s.3 (cutI x.10 12 9)) 20 5) 0) (Out.ret (AVal.bool false) [some (Entry.cells [AVal.int .i64 t, AVal.int .i64 n, AVal.int .i64 x.1, AVal.int .i64 x.2, AVal.int .i64 x.3, AVal.int .i64 x.4, AVal.int .i64 x.5, AVal.int .i64 x.6, AVal.bool x.7, AVal.int .i64 x.8, AVal.int .i64 2, AVal.int .u64 x.10, AVal.int .u64 (peek s.3 (cutI x.10 12 9))]), some (Entry.cells [AVal.int .i64 s.1, AVal.int .i64 s.2, AVal.slice 2 0 (List.length s.3) 1, AVal.int .i64 (s.4 + 1), AVal.int .i64 1, AVal.int .i64 (cutI x.10 12 9), AVal.int .u64 (peek s.3 (cutI x.10 12 9)), AVal.int .u64 (peek s.3 (cutI x.10 12 9)), AVal.bool (inB s.3 (cutI x.10 12 9))]), some (Entry.ints (some .u64) s.3)]) (Out.pre True (Out.ite (ieq (cutI (peek s.3 (cutI x.10 12 9)) 25 18) (cutI x.10 21 18)) (Out.ite (ieq (cutI (peek s.3 (cutI x.10 12 9)) 20 5) (W (x.3 + 1))) (Out.ret (AVal.bool false) [some (Entry.cells [AVal.int .i64 t, AVal.int .i64 n, AVal.int .i64 x.1, AVal.int .i64 x.2, AVal.int .i64 x.3, AVal.int .i64 x.4, AVal.int .i64 x.5, AVal.int .i64 x.6, AVal.bool x.7, AVal.int .i64 x.8, AVal.int .i64 3, AVal.int .u64 x.10, AVal.int .u64 (peek s.3 (cutI x.10 12 9))]), some (Entry.cells [AVal.int .i64 s.1, AVal.int .i64 s.2, AVal.slice 2 0 (List.length s.3) 1, AVal.int .i64 (s.4 + 1), AVal.int .i64 1, AVal.int .i64 (cutI x.10 12 9), AVal.int .u64 (peek s.3 (cutI x.10 12 9)), AVal.int .u64 (peek s.3 (cutI x.10 12 9)), AVal.bool (inB s.3 (cutI x.10 12 9))]), some (Entry.ints (some .u64) s.3)]) (Out.ret (AVal.bool false) [some (Entry.cells [AVal.int .i64 t, AVal.int .i64 n, AVal.int .i64 x.1, AVal.int .i64 x.2, AVal.int .i64 x.3, AVal.int .i64 x.4, AVal.int .i64 x.5, AVal.int .i64 x.6, AVal.bool x.7, AVal.int .i64 x.8, AVal.int .i64 4, AVal.int .u64 x.10, AVal.int .u64 (peek s.3 (cutI x.10 12 9))]), some (Entry.cells [AVal.int .i64 s.1, AVal.int .i64 s.2, AVal.slice 2 0 (List.length s.3) 1, AVal.int .i64 (s.4 + 1), AVal.int .i64 1, AVal.int .i64 (cutI x.10 12 9), AVal.int .u64 (peek s.3 (cutI x.10 12 9)), AVal.int .u64 (peek s.3 (cutI x.10 12 9)), AVal.bool (inB s.3 (cutI x.10 12 9))]), some (Entry.ints (some .u64) s.3)])) (Out.ret (AVal.bool false) [some (Entry.cells [AVal.int .i64 t, AVal.int .i64 n, AVal.int .i64 x.1, AVal.int .i64 x.2, AVal.int .i64 x.3, AVal.int .i64 x.4, AVal.int .i64 x.5, AVal.int .i64 x.6, AVal.bool x.7, AVal.int .i64 x.8, AVal.int .i64 4, AVal.int .u64 x.10, AVal.int .u64 (peek s.3 (cutI x.10 12 9))]), some (Entry.cells [AVal.int .i64 s.1, AVal.int .i64 s.2, AVal.slice 2 0 (List.length s.3) 1, AVal.int .i64 (s.4 + 1), AVal.int .i64 1, AVal.int .i64 (cutI x.10 12 9), AVal.int .u64 (peek s.3 (cutI x.10 12 9)), AVal.int .u64 (peek s.3 (cutI x.10 12 9)), AVal.bool (inB s.3 (cutI x.10 12 9))]), some (Entry.ints (some .u64) s.3)])))) (Out.pre True (Out.ite (ieq (cutI (peek s.3 (cutI x.10 12 9)) 25 18) (cutI x.10 21 18)) (Out.ite (ieq (cutI (peek s.3 (cutI x.10 12 9)) 20 5) (W (x.3 + 1))) (Out.ret (AVal.bool false) [some (Entry.cells [AVal.int .i64 t, AVal.int .i64 n, AVal.int .i64 x.1, AVal.int .i64 x.2, AVal.int .i64 x.3, AVal.int .i64 x.4, AVal.int .i64 x.5, AVal.int .i64 x.6, AVal.bool x.7, AVal.int .i64 x.8, AVal.int .i64 3, AVal.int .u64 x.10, AVal.int .u64 (peek s.3 (cutI x.10 12 9))]), some (Entry.cells [AVal.int .i64 s.1, AVal.int .i64 s.2, AVal.slice 2 0 (List.length s.3) 1, AVal.int .i64 (s.4 + 1), AVal.int .i64 1, AVal.int .i64 (cutI x.10 12 9), AVal.int .u64 (peek s.3 (cutI x.10 12 9)), AVal.int .u64 (peek s.3 (cutI x.10 12 9)), AVal.bool (inB s.3 (cutI x.10 12 9))]), some (Entry.ints (some .u64) s.3)]) (Out.ret (AVal.bool false) [some (Entry.cells [AVal.int .i64 t, AVal.int .i64 n, AVal.int .i64 x.1, AVal.int .i64 x.2, AVal.int .i64 x.3, AVal.int .i64 x.4, AVal.int .i64 x.5, AVal.int .i64 x.6, AVal.bool x.7, AVal.int .i64 x.8, AVal.int .i64 4, AVal.int .u64 x.10, AVal.int .u64 (peek s.3 (cutI x.10 12 9))]), some (Entry.cells [AVal.int .i64 s.1, AVal.int .i64 s.2, AVal.slice 2 0 (List.length s.3) 1, AVal.int .i64 (s.4 + 1), AVal.int .i64 1, AVal.int .i64 (cutI x.10 12 9), AVal.int .u64 (peek s.3 (cutI x.10 12 9)), AVal.int .u64 (peek s.3 (cutI x.10 12 9)), AVal.bool (inB s.3 (cutI x.10 12 9))]), some (Entry.ints (some .u64) s.3)])) (Out.ret (AVal.bool false) [some (Entry.cells [AVal.int .i64 t, AVal.int .i64 n, AVal.int .i64 x.1, AVal.int .i64 x.2, AVal.int .i64 x.3, AVal.int .i64 x.4, AVal.int .i64 x.5, AVal.int .i64 x.6, AVal.bool x.7, AVal.int .i64 x.8, AVal.int .i64 4, AVal.int .u64 x.10, AVal.int .u64 (peek s.3 (cutI x.10 12 9))]), some (Entry.cells [AVal.int .i64 s.1, AVal.int .i64 s.2, AVal.slice 2 0 (List.length s.3) 1, AVal.int .i64 (s.4 + 1), AVal.int .i64 1, AVal.int .i64 (cutI x.10 12 9), AVal.int .u64 (peek s.3 (cutI x.10 12 9)), AVal.int .u64 (peek s.3 (cutI x.10 12 9)), AVal.bool (inB s.3 (cutI x.10 12 9))]), some (Entry.ints (some .u64) s.3)])))))))) (Out.ite (ieq x.9 2) (Out.pre ((-1000000 : Int) ≤ x.3 ∧ x.3 ≤ (1000000 : Int)) (Out.pre (List.length s.3 = List.length s.3 ∧ True ∧ True ∧ ((List.length s.3 = List.length s.3 ∧ (0 : Int) ≤ s.4 ∧ s.4 ≤ (4611686018427387904 : Int)) ∧ True) ∧ True) (Out.ite (casB s.3 (cutI x.10 12 9) x.11) (Out.pre True (Out.ite (popsB x.4 x.5) (Out.ret (AVal.bool true) [some (Entry.cells [AVal.int .i64 t, AVal.int .i64 n, AVal.int .i64 (cutI x.11 10 9), AVal.int .i64 x.2, AVal.int .i64 x.3, AVal.int .i64 x.4, AVal.int .i64 x.5, AVal.int .i64 x.6, AVal.bool x.7, AVal.int .i64 x.8, AVal.int .i64 x.9, AVal.int .u64 x.10, AVal.int .u64 x.11]), some (Entry.cells [AVal.int .i64 s.1, AVal.int .i64 s.2, AVal.slice 2 0 (List.length (bif casB s.3 (cutI x.10 12 9) x.11 then putI s.3 (cutI x.10 12 9) (bif bif fitI (cutI x.11 0 10) 10 then bif fitI (cutI x.10 39 9) 9 then bif fitI (x.3 + 1) 5 then fitI (cutI x.11 25 18) 18 else false else false else false then putV (cutI x.11 0 10) (cutI x.10 39 9) (ieq (cutI x.10 48 1) 1) (x.3 + 1) (cutI x.11 25 18) else 0) else s.3)) 1, AVal.int .i64 (s.4 + 1), AVal.int .i64 3, AVal.int .i64 (cutI x.10 12 9), AVal.int .u64 (peek s.3 (cutI x.10 12 9)), AVal.int .u64 (bif inB s.3 (cutI x.10 12 9) then bif bif fitI (cutI x.11 0 10) 10 then bif fitI (cutI x.10 39 9) 9 then bif fitI (x.3 + 1) 5 then fitI (cutI x.11 25 18) 18 else false else false else false then putV (cutI x.11 0 10) (cutI x.10 39 9) (ieq (cutI x.10 48 1) 1) (x.3 + 1) (cutI x.11 25 18) else 0 else 0), AVal.bool (casB s.3 (cutI x.10 12 9) x.11)]), some (Entry.ints (some .u64) (bif casB s.3 (cutI x.10 12 9) x.11 then putI s.3 (cutI x.10 12 9) (bif bif fitI (cutI x.11 0 10) 10 then bif fitI (cutI x.10 39 9) 9 then bif fitI (x.3 + 1) 5 then fitI (cutI x.11 25 18) 18 else false else false else false then putV (cutI x.11 0 10) (cutI x.10 39 9) (ieq (cutI x.10 48 1) 1) (x.3 + 1) (cutI x.11 25 18) else 0) else s.3))]) (Out.ret (AVal.bool true) [some (Entry.cells [AVal.int .i64 t, AVal.int .i64 n, AVal.int .i64 x.1, AVal.int .i64 x.2, AVal.int .i64 x.3, AVal.int .i64 x.4, AVal.int .i64 x.5, AVal.int .i64 x.6, AVal.bool x.7, AVal.int .i64 x.8, AVal.int .i64 x.9, AVal.int .u64 x.10, AVal.int .u64 x.11]), some (Entry.cells [AVal.int .i64 s.1, AVal.int .i64 s.2, AVal.slice 2 0 (List.length (bif casB s.3 (cutI x.10 12 9) x.11 then putI s.3 (cutI x.10 12 9) (bif bif fitI (cutI x.11 0 10) 10 then bif fitI (cutI x.10 39 9) 9 then bif fitI (x.3 + 1) 5 then fitI (cutI x.11 25 18) 18 else false else false else false then putV (cutI x.11 0 10) (cutI x.10 39 9) (ieq (cutI x.10 48 1) 1) (x.3 + 1) (cutI x.11 25 18) else 0) else s.3)) 1, AVal.int .i64 (s.4 + 1), AVal.int .i64 3, AVal.int .i64 (cutI x.10 12 9), AVal.int .u64 (peek s.3 (cutI x.10 12 9)), AVal.int .u64 (bif inB s.3 (cutI x.10 12 9) then bif bif fitI (cutI x.11 0 10) 10 then bif fitI (cutI x.10 39 9) 9 then bif fitI (x.3 + 1) 5 then fitI (cutI x.11 25 18) 18 else false else false else false then putV (cutI x.11 0 10) (cutI x.10 39 9) (ieq (cutI x.10 48 1) 1) (x.3 + 1) (cutI x.11 25 18) else 0 else 0), AVal.bool (casB s.3 (cutI x.10 12 9) x.11)]), some (Entry.ints (some .u64) (bif casB s.3 (cutI x.10 12 9) x.11 then putI s.3 (cutI x.10 12 9) (bif bif fitI (cutI x.11 0 10) 10 then bif fitI (cutI x.10 39 9) 9 then bif fitI (x.3 + 1) 5 then fitI (cutI x.11 25 18) 18 else false else false else false then putV (cutI x.11 0 10) (cutI x.10 39 9) (ieq (cutI x.10 48 1) 1) (x.3 + 1) (cutI x.11 25 18) else 0) else s.3))]))) (Out.ret (AVal.bool true) [some (Entry.cells [AVal.int .i64 t, AVal.int .i64 n, AVal.int .i64 x.1, AVal.int .i64 x.2, AVal.int .i64 x.3, AVal.int .i64 x.4, AVal.int .i64 x.5, AVal.int .i64 x.6, AVal.bool x.7, AVal.int .i64 x.8, AVal.int .i64 x.9, AVal.int .u64 x.10, AVal.int .u64 x.11]), some (Entry.cells [AVal.int .i64 s.1, AVal.int .i64 s.2, AVal.slice 2 0 (List.length (bif casB s.3 (cutI x.10 12 9) x.11 then putI s.3 (cutI x.10 12 9) (bif bif fitI (cutI x.11 0 10) 10 then bif fitI (cutI x.10 39 9) 9 then bif fitI (x.3 + 1) 5 then fitI (cutI x.11 25 18) 18 else false else false else false then putV (cutI x.11 0 10) (cutI x.10 39 9) (ieq (cutI x.10 48 1) 1) (x.3 + 1) (cutI x.11 25 18) else 0) else s.3)) 1, AVal.int .i64 (s.4 + 1), AVal.int .i64 3, AVal.int .i64 (cutI x.10 12 9), AVal.int .u64 (peek s.3 (cutI x.10 12 9)), AVal.int .u64 (bif inB s.3 (cutI x.10 12 9) then bif bif fitI (cutI x.11 0 10) 10 then bif fitI (cutI x.10 39 9) 9 then bif fitI (x.3 + 1) 5 then fitI (cutI x.11 25 18) 18 else false else false else false then putV (cutI x.11 0 10) (cutI x.10 39 9) (ieq (cutI x.10 48 1) 1) (x.3 + 1) (cutI x.11 25 18) else 0 else 0), AVal.bool (casB s.3 (cutI x.10 12 9) x.11)]), some (Entry.ints (some .u64) (bif casB s.3 (cutI x.10 12 9) x.11 then putI s.3 (cutI x.10 12 9) (bif bif fitI (cutI x.11 0 10) 10 then bif fitI (cutI x.10 39 9) 9 then bif fitI (x.3 + 1) 5 then fitI (cutI x.11 25 18) 18 else false else false else false then putV (cutI x.11 0 10) (cutI x.10 39 9) (ieq (cutI x.10 48 1) 1) (x.3 + 1) (cutI x.11 25 18) else 0) else s.3))])))) (Out.ite (ieq x.9 3) (Out.pre (List.length s.3 = List.length s.3) (Out.pre True (Out.pre ((((0 : Int) ≤ t ∧ t ≤ (100000 : Int)) ∧ ((0 : Int) ≤ n ∧ n ≤ (100000 : Int)) ∧ (-1099511627776 : Int) ≤ x.3 ∧ x.3 ≤ (1099511627776 : Int)) ∧ True) (Out.pre ((List.length s.3 = List.length s.3 ∧ (0 : Int) ≤ s.4 ∧ s.4 ≤ (4611686018427387904 : Int)) ∧ True) (Out.ret (AVal.bool true) [some (Entry.cells [AVal.int .i64 t, AVal.int .i64 n, AVal.int .i64 x.1, AVal.int .i64 x.2, AVal.int .i64 x.3, AVal.int .i64 x.4, AVal.int .i64 x.5, AVal.int .i64 x.6, AVal.bool x.7, AVal.int .i64 x.8, AVal.int .i64 x.9, AVal.int .u64 x.10, AVal.int .u64 x.11]), some (Entry.cells [AVal.int .i64 s.1, AVal.int .i64 s.2, AVal.slice 2 0 (List.length (bif casB s.3 (2 * n + 5 + 2 * t + 3 * x.3 + 2) x.10 then putI s.3 (2 * n + 5 + 2 * t + 3 * x.3 + 2) (bif dOk (cutI x.10 0 12) (cutI x.10 12 9) (cutI x.10 21 18) (cutI x.10 39 9) 3 (cutI x.10 52 10) then dPutV (cutI x.10 0 12) (cutI x.10 12 9) (cutI x.10 21 18) (cutI x.10 39 9) (ieq (cutI x.10 48 1) 1) 3 (cutI x.10 52 10) else 0) else s.3)) 1, AVal.int .i64 (s.4 + 1), AVal.int .i64 3, AVal.int .i64 (2 * n + 5 + 2 * t + 3 * x.3 + 2), AVal.int .u64 (peek s.3 (2 * n + 5 + 2 * t + 3 * x.3 + 2)), AVal.int .u64 (bif inB s.3 (2 * n + 5 + 2 * t + 3 * x.3 + 2) then bif dOk (cutI x.10 0 12) (cutI x.10 12 9) (cutI x.10 21 18) (cutI x.10 39 9) 3 (cutI x.10 52 10) then dPutV (cutI x.10 0 12) (cutI x.10 12 9) (cutI x.10 21 18) (cutI x.10 39 9) (ieq (cutI x.10 48 1) 1) 3 (cutI x.10 52 10) else 0 else 0), AVal.bool (casB s.3 (2 * n + 5 + 2 * t + 3 * x.3 + 2) x.10)]), some (Entry.ints (some .u64) (bif casB s.3 (2 * n + 5 + 2 * t + 3 * x.3 + 2) x.10 then putI s.3 (2 * n + 5 + 2 * t + 3 * x.3 + 2) (bif dOk (cutI x.10 0 12) (cutI x.10 12 9) (cutI x.10 21 18) (cutI x.10 39 9) 3 (cutI x.10 52 10) then dPutV (cutI x.10 0 12) (cutI x.10 12 9) (cutI x.10 21 18) (cutI x.10 39 9) (ieq (cutI x.10 48 1) 1) 3 (cutI x.10 52 10) else 0) else s.3))]))))) (Out.ite (ieq x.9 4) (Out.pre (List.length s.3 = List.length s.3) (Out.pre True (Out.pre ((((0 : Int) ≤ t ∧ t ≤ (100000 : Int)) ∧ ((0 : Int) ≤ n ∧ n ≤ (100000 : Int)) ∧ (-1099511627776 : Int) ≤ x.3 ∧ x.3 ≤ (1099511627776 : Int)) ∧ True) (Out.pre ((List.length s.3 = List.length s.3 ∧ (0 : Int) ≤ s.4 ∧ s.4 ≤ (4611686018427387904 : Int)) ∧ True) (Out.ret (AVal.bool true) [some (Entry.cells [AVal.int .i64 t, AVal.int .i64 n, AVal.int .i64 x.1, AVal.int .i64 x.2, AVal.int .i64 x.3, AVal.int .i64 x.4, AVal.int .i64 x.5, AVal.int .i64 x.6, AVal.bool x.7, AVal.int .i64 x.8, AVal.int .i64 x.9, AVal.int .u64 x.10, AVal.int .u64 x.11]), some (Entry.cells [AVal.int .i64 s.1, AVal.int .i64 s.2, AVal.slice 2 0 (List.length (bif casB s.3 (2 * n + 5 + 2 * t + 3 * x.3 + 2) x.10 then putI s.3 (2 * n + 5 + 2 * t + 3 * x.3 + 2) (bif dOk (cutI x.10 0 12) (cutI x.10 12 9) (cutI x.10 21 18) (cutI x.10 39 9) 4 (cutI x.10 52 10) then dPutV (cutI x.10 0 12) (cutI x.10 12 9) (cutI x.10 21 18) (cutI x.10 39 9) (ieq (cutI x.10 48 1) 1) 4 (cutI x.10 52 10) else 0) else s.3)) 1, AVal.int .i64 (s.4 + 1), AVal.int .i64 3, AVal.int .i64 (2 * n + 5 + 2 * t + 3 * x.3 + 2), AVal.int .u64 (peek s.3 (2 * n + 5 + 2 * t + 3 * x.3 + 2)), AVal.int .u64 (bif inB s.3 (2 * n + 5 + 2 * t + 3 * x.3 + 2) then bif dOk (cutI x.10 0 12) (cutI x.10 12 9) (cutI x.10 21 18) (cutI x.10 39 9) 4 (cutI x.10 52 10) then dPutV (cutI x.10 0 12) (cutI x.10 12 9) (cutI x.10 21 18) (cutI x.10 39 9) (ieq (cutI x.10 48 1) 1) 4 (cutI x.10 52 10) else 0 else 0), AVal.bool (casB s.3 (2 * n + 5 + 2 * t + 3 * x.3 + 2) x.10)]), some (Entry.ints (some .u64) (bif casB s.3 (2 * n + 5 + 2 * t + 3 * x.3 + 2) x.10 then putI s.3 (2 * n + 5 + 2 * t + 3 * x.3 + 2) (bif dOk (cutI x.10 0 12) (cutI x.10 12 9) (cutI x.10 21 18) (cutI x.10 39 9) 4 (cutI x.10 52 10) then dPutV (cutI x.10 0 12) (cutI x.10 12 9) (cutI x.10 21 18) (cutI x.10 39 9) (ieq (cutI x.10 48 1) 1) 4 (cutI x.10 52 10) else 0) else s.3))]))))) (Out.ite (ieq x.9 5) (Out.pre True (Out.pre (List.length s.3 = List.length s.3 ∧ (0 : Int) ≤ s.4 ∧ s.4 ≤ (4611686018427387904 : Int)) (Out.pre True (Out.pre True (Out.ite (ieq (cutI (peek s.3 (cutI x.10 12 9)) 25 18) (cutI x.10 21 18)) (Out.ite (ieq (cutI (peek s.3 (cutI x.10 12 9)) 20 5) 0) (Out.ret (AVal.bool false) [some (Entry.cells [AVal.int .i64 t, AVal.int .i64 n, AVal.int .i64 x.1, AVal.int .i64 x.2, AVal.int .i64 x.3, AVal.int .i64 x.4, AVal.int .i64 x.5, AVal.int .i64 x.6, AVal.bool x.7, AVal.int .i64 x.8, AVal.int .i64 7, AVal.int .u64 x.10, AVal.int .u64 (peek s.3 (cutI x.10 12 9))]), some (Entry.cells [AVal.int .i64 s.1, AVal.int .i64 s.2, AVal.slice 2 0 (List.length s.3) 1, AVal.int .i64 (s.4 + 1), AVal.int .i64 1, AVal.int .i64 (cutI x.10 12 9), AVal.int .u64 (peek s.3 (cutI x.10 12 9)), AVal.int .u64 (peek s.3 (cutI x.10 12 9)), AVal.bool (inB s.3 (cutI x.10 12 9))]), some (Entry.ints (some .u64) s.3)]) (Out.pre True (Out.ite (ieq (cutI (peek s.3 (cutI x.10 12 9)) 25 18) (cutI x.10 21 18)) (Out.ite (ieq (cutI (peek s.3 (cutI x.10 12 9)) 20 5) (W (x.3 + 1))) (Out.ret (AVal.bool false) [some (Entry.cells [AVal.int .i64 t, AVal.int .i64 n, AVal.int .i64 x.1, AVal.int .i64 x.2, AVal.int .i64 x.3, AVal.int .i64 x.4, AVal.int .i64 x.5, AVal.int .i64 x.6, AVal.bool x.7, AVal.int .i64 x.8, AVal.int .i64 6, AVal.int .u64 x.10, AVal.int .u64 (peek s.3 (cutI x.10 12 9))]), some (Entry.cells [AVal.int .i64 s.1, AVal.int .i64 s.2, AVal.slice 2 0 (List.length s.3) 1, AVal.int .i64 (s.4 + 1), AVal.int .i64 1, AVal.int .i64 (cutI x.10 12 9), AVal.int .u64 (peek s.3 (cutI x.10 12 9)), AVal.int .u64 (peek s.3 (cutI x.10 12 9)), AVal.bool (inB s.3 (cutI x.10 12 9))]), some (Entry.ints (some .u64) s.3)]) (Out.ret (AVal.bool false) [some (Entry.cells [AVal.int .i64 t, AVal.int .i64 n, AVal.int .i64 x.1, AVal.int .i64 x.2, AVal.int .i64 x.3, AVal.int .i64 x.4, AVal.int .i64 x.5, AVal.int .i64 x.6, AVal.bool x.7, AVal.int .i64 x.8, AVal.int .i64 7, AVal.int .u64 x.10, AVal.int .u64 (peek s.3 (cutI x.10 12 9))]), some (Entry.cells [AVal.int .i64 s.1, AVal.int .i64 s.2, AVal.slice 2 0 (List.length s.3) 1, AVal.int .i64 (s.4 + 1), AVal.int .i64 1, AVal.int .i64 (cutI x.10 12 9), AVal.int .u64 (peek s.3 (cutI x.10 12 9)), AVal.int .u64 (peek s.3 (cutI x.10 12 9)), AVal.bool (inB s.3 (cutI x.10 12 9))]), some (Entry.ints (some .u64) s.3)])) (Out.ret (AVal.bool false) [some (Entry.cells [AVal.int .i64 t, AVal.int .i64 n, AVal.int .i64 x.1, AVal.int .i64 x.2, AVal.int .i64 x.3, AVal.int .i64 x.4, AVal.int .i64 x.5, AVal.int .i64 x.6, AVal.bool x.7, AVal.int .i64 x.8, AVal.int .i64 7, AVal.int .u64 x.10, AVal.int .u64 (peek s.3 (cutI x.10 12 9))]), some (Entry.cells [AVal.int .i64 s.1, AVal.int .i64 s.2, AVal.slice 2 0 (List.length s.3) 1, AVal.int .i64 (s.4 + 1), AVal.int .i64 1, AVal.int .i64 (cutI x.10 12 9), AVal.int .u64 (peek s.3 (cutI x.10 12 9)), AVal.int .u64 (peek s.3 (cutI x.10 12 9)), AVal.bool (inB s.3 (cutI x.10 12 9))]), some (Entry.ints (some .u64) s.3)])))) (Out.pre True (Out.ite (ieq (cutI (peek s.3 (cutI x.10 12 9)) 25 18) (cutI x.10 21 18)) (Out.ite (ieq (cutI (peek s.3 (cutI x.10 12 9)) 20 5) (W (x.3 + 1))) (Out.ret (AVal.bool false) [some (Entry.cells [AVal.int .i64 t, AVal.int .i64 n, AVal.int .i64 x.1, AVal.int .i64 x.2, AVal.int .i64 x.3, AVal.int .i64 x.4, AVal.int .i64 x.5, AVal.int .i64 x.6, AVal.bool x.7, AVal.int .i64 x.8, AVal.int .i64 6, AVal.int .u64 x.10, AVal.int .u64 (peek s.3 (cutI x.10 12 9))]), some (Entry.cells [AVal.int .i64 s.1, AVal.int .i64 s.2, AVal.slice 2 0 (List.length s.3) 1, AVal.int .i64 (s.4 + 1), AVal.int .i64 1, AVal.int .i64 (cutI x.10 12 9), AVal.int .u64 (peek s.3 (cutI x.10 12 9)), AVal.int .u64 (peek s.3 (cutI x.10 12 9)), AVal.bool (inB s.3 (cutI x.10 12 9))]), some (Entry.ints (some .u64) s.3)]) (Out.ret (AVal.bool false) [some (Entry.cells [AVal.int .i64 t, AVal.int .i64 n, AVal.int .i64 x.1, AVal.int .i64 x.2, AVal.int .i64 x.3, AVal.int .i64 x.4, AVal.int .i64 x.5, AVal.int .i64 x.6, AVal.bool x.7, AVal.int .i64 x.8, AVal.int .i64 7, AVal.int .u64 x.10, AVal.int .u64 (peek s.3 (cutI x.10 12 9))]), some (Entry.cells [AVal.int .i64 s.1, AVal.int .i64 s.2, AVal.slice 2 0 (List.length s.3) 1, AVal.int .i64 (s.4 + 1), AVal.int .i64 1, AVal.int .i64 (cutI x.10 12 9), AVal.int .u64 (peek s.3 (cutI x.10 12 9)), AVal.int .u64 (peek s.3 (cutI x.10 12 9)), AVal.bool (inB s.3 (cutI x.10 12 9))]), some (Entry.ints (some .u64) s.3)])) (Out.ret (AVal.bool false) [some (Entry.cells [AVal.int .i64 t, AVal.int .i64 n, AVal.int .i64 x.1, AVal.int .i64 x.2, AVal.int .i64 x.3, AVal.int .i64 x.4, AVal.int .i64 x.5, AVal.int .i64 x.6, AVal.bool x.7, AVal.int .i64 x.8, AVal.int .i64 7, AVal.int .u64 x.10, AVal.int .u64 (peek s.3 (cutI x.10 12 9))]), some (Entry.cells [AVal.int .i64 s.1, AVal.int .i64 s.2, AVal.slice 2 0 (List.length s.3) 1, AVal.int .i64 (s.4 + 1), AVal.int .i64 1, AVal.int .i64 (cutI x.10 12 9), AVal.int .u64 (peek s.3 (cutI x.10 12 9)), AVal.int .u64 (peek s.3 (cutI x.10 12 9)), AVal.bool (inB s.3 (cutI x.10 12 9))]), some (Entry.ints (some .u64) s.3)])))))))) (Out.ite (ieq x.9 6) (Out.pre (List.length s.3 = List.length s.3) (Out.pre True (Out.pre True (Out.pre ((List.length s.3 = List.length s.3 ∧ (0 : Int) ≤ s.4 ∧ s.4 ≤ (4611686018427387904 : Int)) ∧ True) (Out.ret (AVal.bool false) [some (Entry.cells [AVal.int .i64 t, AVal.int .i64 n, AVal.int .i64 x.1, AVal.int .i64 x.2, AVal.int .i64 x.3, AVal.int .i64 x.4, AVal.int .i64 x.5, AVal.int .i64 x.6, AVal.bool x.7, AVal.int .i64 x.8, AVal.int .i64 7, AVal.int .u64 x.10, AVal.int .u64 x.11]), some (Entry.cells [AVal.int .i64 s.1, AVal.int .i64 s.2, AVal.slice 2 0 (List.length (bif casB s.3 (cutI x.10 12 9) x.11 then putI s.3 (cutI x.10 12 9) (bif bif fitI (cutI x.11 0 10) 10 then bif fitI (cutI x.11 10 9) 9 then bif fitI 0 5 then fitI (W (↑(BitVec.toNat (BitVec.ofInt (IntKind.bits .i64) (W (cutI x.11 25 18 + 1)) &&& BitVec.ofInt (IntKind.bits .i64) 262143)) : Int)) 18 else false else false else false then putV (cutI x.11 0 10) (cutI x.11 10 9) (ieq (cutI x.11 19 1) 1) 0 (W (↑(BitVec.toNat (BitVec.ofInt (IntKind.bits .i64) (W (cutI x.11 25 18 + 1)) &&& BitVec.ofInt (IntKind.bits .i64) 262143)) : Int)) else 0) else s.3)) 1, AVal.int .i64 (s.4 + 1), AVal.int .i64 3, AVal.int .i64 (cutI x.10 12 9), AVal.int .u64 (peek s.3 (cutI x.10 12 9)), AVal.int .u64 (bif inB s.3 (cutI x.10 12 9) then bif bif fitI (cutI x.11 0 10) 10 then bif fitI (cutI x.11 10 9) 9 then bif fitI 0 5 then fitI (W (↑(BitVec.toNat (BitVec.ofInt (IntKind.bits .i64) (W (cutI x.11 25 18 + 1)) &&& BitVec.ofInt (IntKind.bits .i64) 262143)) : Int)) 18 else false else false else false then putV (cutI x.11 0 10) (cutI x.11 10 9) (ieq (cutI x.11 19 1) 1) 0 (W (↑(BitVec.toNat (BitVec.ofInt (IntKind.bits .i64) (W (cutI x.11 25 18 + 1)) &&& BitVec.ofInt (IntKind.bits .i64) 262143)) : Int)) else 0 else 0), AVal.bool (casB s.3 (cutI x.10 12 9) x.11)]), some (Entry.ints (some .u64) (bif casB s.3 (cutI x.10 12 9) x.11 then putI s.3 (cutI x.10 12 9) (bif bif fitI (cutI x.11 0 10) 10 then bif fitI (cutI x.11 10 9) 9 then bif fitI 0 5 then fitI (W (↑(BitVec.toNat (BitVec.ofInt (IntKind.bits .i64) (W (cutI x.11 25 18 + 1)) &&& BitVec.ofInt (IntKind.bits .i64) 262143)) : Int)) 18 else false else false else false then putV (cutI x.11 0 10) (cutI x.11 10 9) (ieq (cutI x.11 19 1) 1) 0 (W (↑(BitVec.toNat (BitVec.ofInt (IntKind.bits .i64) (W (cutI x.11 25 18 + 1)) &&& BitVec.ofInt (IntKind.bits .i64) 262143)) : Int)) else 0) else s.3))]))))) (Out.ite (ieq x.9 7) (Out.pre True (Out.pre (List.length s.3 = List.length s.3) (Out.pre True (Out.pre ((((0 : Int) ≤ t ∧ t ≤ (100000 : Int)) ∧ ((0 : Int) ≤ n ∧ n ≤ (100000 : Int)) ∧ (-1099511627776 : Int) ≤ x.3 ∧ x.3 ≤ (1099511627776 : Int)) ∧ True) (Out.pre ((List.length s.3 = List.length s.3 ∧ (0 : Int) ≤ s.4 ∧ s.4 ≤ (4611686018427387904 : Int)) ∧ True) (Out.ret (AVal.bool true) [some (Entry.cells [AVal.int .i64 t, AVal.int .i64 n, AVal.int .i64 x.1, AVal.int .i64 x.2, AVal.int .i64 x.3, AVal.int .i64 x.4, AVal.int .i64 x.5, AVal.int .i64 x.6, AVal.bool x.7, AVal.int .i64 x.8, AVal.int .i64 x.9, AVal.int .u64 x.10, AVal.int .u64 x.11]), some (Entry.cells [AVal.int .i64 s.1, AVal.int .i64 s.2, AVal.slice 2 0 (List.length (bif casB s.3 (2 * n + 5 + 2 * t + 3 * x.3 + 2) x.10 then putI s.3 (2 * n + 5 + 2 * t + 3 * x.3 + 2) (bif dOk (cutI x.10 0 12) 0 0 0 5 (cutI x.10 52 10) then dPutV (cutI x.10 0 12) 0 0 0 true 5 (cutI x.10 52 10) else 0) else s.3)) 1, AVal.int .i64 (s.4 + 1), AVal.int .i64 3, AVal.int .i64 (2 * n + 5 + 2 * t + 3 * x.3 + 2), AVal.int .u64 (peek s.3 (2 * n + 5 + 2 * t + 3 * x.3 + 2)), AVal.int .u64 (bif inB s.3 (2 * n + 5 + 2 * t + 3 * x.3 + 2) then bif dOk (cutI x.10 0 12) 0 0 0 5 (cutI x.10 52 10) then dPutV (cutI x.10 0 12) 0 0 0 true 5 (cutI x.10 52 10) else 0 else 0), AVal.bool (casB s.3 (2 * n + 5 + 2 * t + 3 * x.3 + 2) x.10)]), some (Entry.ints (some .u64) (bif casB s.3 (2 * n + 5 + 2 * t + 3 * x.3 + 2) x.10 then putI s.3 (2 * n + 5 + 2 * t + 3 * x.3 + 2) (bif dOk (cutI x.10 0 12) 0 0 0 5 (cutI x.10 52 10) then dPutV (cutI x.10 0 12) 0 0 0 true 5 (cutI x.10 52 10) else 0) else s.3))])))))) (Out.ite (ieq x.9 8) (Out.pre ((0 : Int) ≤ cutI x.10 0 12 ∧ cutI x.10 0 (12 : Int) ≤ (1000000 : Int)) (Out.pre (List.length s.3 = List.length s.3 ∧ True ∧ ((((0 : Int) ≤ t ∧ t ≤ (100000 : Int)) ∧ ((0 : Int) ≤ n ∧ n ≤ (100000 : Int)) ∧ (-1099511627776 : Int) ≤ x.3 ∧ x.3 ≤ (1099511627776 : Int)) ∧ True) ∧ ((List.length s.3 = List.length s.3 ∧ (0 : Int) ≤ s.4 ∧ s.4 ≤ (4611686018427387904 : Int)) ∧ True) ∧ True) (Out.ite (!casB s.3 (2 * n + 5 + 2 * t + 3 * x.3 + 2) x.10) (Out.ret (AVal.bool true) [some (Entry.cells [AVal.int .i64 t, AVal.int .i64 n, AVal.int .i64 x.1, AVal.int .i64 x.2, AVal.int .i64 x.3, AVal.int .i64 x.4, AVal.int .i64 x.5, AVal.int .i64 x.6, AVal.bool x.7, AVal.int .i64 x.8, AVal.int .i64 9, AVal.int .u64 x.10, AVal.int .u64 x.11]), some (Entry.cells [AVal.int .i64 s.1, AVal.int .i64 s.2, AVal.slice 2 0 (List.length (bif casB s.3 (2 * n + 5 + 2 * t + 3 * x.3 + 2) x.10 then putI s.3 (2 * n + 5 + 2 * t + 3 * x.3 + 2) (bif dOk (attI (cutI x.10 0 12)) 0 0 0 1 0 then dPutV (attI (cutI x.10 0 12)) 0 0 0 false 1 0 else 0) else s.3)) 1, AVal.int .i64 (s.4 + 1), AVal.int .i64 3, AVal.int .i64 (2 * n + 5 + 2 * t + 3 * x.3 + 2), AVal.int .u64 (peek s.3 (2 * n + 5 + 2 * t + 3 * x.3 + 2)), AVal.int .u64 (bif inB s.3 (2 * n + 5 + 2 * t + 3 * x.3 + 2) then bif dOk (attI (cutI x.10 0 12)) 0 0 0 1 0 then dPutV (attI (cutI x.10 0 12)) 0 0 0 false 1 0 else 0 else 0), AVal.bool (casB s.3 (2 * n + 5 + 2 * t + 3 * x.3 + 2) x.10)]), some (Entry.ints (some .u64) (bif casB s.3 (2 * n + 5 + 2 * t + 3 * x.3 + 2) x.10 then putI s.3 (2 * n + 5 + 2 * t + 3 * x.3 + 2) (bif dOk (attI (cutI x.10 0 12)) 0 0 0 1 0 then dPutV (attI (cutI x.10 0 12)) 0 0 0 false 1 0 else 0) else s.3))]) (Out.pre True (Out.ite (!linksB x.5) (Out.ret (AVal.bool true) [some (Entry.cells [AVal.int .i64 t, AVal.int .i64 n, AVal.int .i64 x.1, AVal.int .i64 x.2, AVal.int .i64 x.3, AVal.int .i64 x.4, AVal.int .i64 x.5, AVal.int .i64 x.6, AVal.bool x.7, AVal.int .i64 x.8, AVal.int .i64 9, AVal.int .u64 x.10, AVal.int .u64 x.11]), some (Entry.cells [AVal.int .i64 s.1, AVal.int .i64 s.2, AVal.slice 2 0 (List.length (bif casB s.3 (2 * n + 5 + 2 * t + 3 * x.3 + 2) x.10 then putI s.3 (2 * n + 5 + 2 * t + 3 * x.3 + 2) (bif dOk (attI (cutI x.10 0 12)) 0 0 0 1 0 then dPutV (attI (cutI x.10 0 12)) 0 0 0 false 1 0 else 0) else s.3)) 1, AVal.int .i64 (s.4 + 1), AVal.int .i64 3, AVal.int .i64 (2 * n + 5 + 2 * t + 3 * x.3 + 2), AVal.int .u64 (peek s.3 (2 * n + 5 + 2 * t + 3 * x.3 + 2)), AVal.int .u64 (bif inB s.3 (2 * n + 5 + 2 * t + 3 * x.3 + 2) then bif dOk (attI (cutI x.10 0 12)) 0 0 0 1 0 then dPutV (attI (cutI x.10 0 12)) 0 0 0 false 1 0 else 0 else 0), AVal.bool (casB s.3 (2 * n + 5 + 2 * t + 3 * x.3 + 2) x.10)]), some (Entry.ints (some .u64) (bif casB s.3 (2 * n + 5 + 2 * t + 3 * x.3 + 2) x.10 then putI s.3 (2 * n + 5 + 2 * t + 3 * x.3 + 2) (bif dOk (attI (cutI x.10 0 12)) 0 0 0 1 0 then dPutV (attI (cutI x.10 0 12)) 0 0 0 false 1 0 else 0) else s.3))]) (Out.pre (True ∧ True) (Out.ret (AVal.bool !nodeB n (cutI x.10 39 9)) [some (Entry.cells [AVal.int .i64 t, AVal.int .i64 n, AVal.int .i64 x.1, AVal.int .i64 x.2, AVal.int .i64 x.3, AVal.int .i64 x.4, AVal.int .i64 x.5, AVal.int .i64 x.6, AVal.bool x.7, AVal.int .i64 x.8, AVal.int .i64 9, AVal.int .u64 x.10, AVal.int .u64 x.11]), some (Entry.cells [AVal.int .i64 s.1, AVal.int .i64 s.2, AVal.slice 2 0 (List.length (bif casB s.3 (2 * n + 5 + 2 * t + 3 * x.3 + 2) x.10 then putI s.3 (2 * n + 5 + 2 * t + 3 * x.3 + 2) (bif dOk (attI (cutI x.10 0 12)) 0 0 0 1 0 then dPutV (attI (cutI x.10 0 12)) 0 0 0 false 1 0 else 0) else s.3)) 1, AVal.int .i64 (s.4 + 1), AVal.int .i64 3, AVal.int .i64 (2 * n + 5 + 2 * t + 3 * x.3 + 2), AVal.int .u64 (peek s.3 (2 * n + 5 + 2 * t + 3 * x.3 + 2)), AVal.int .u64 (bif inB s.3 (2 * n + 5 + 2 * t + 3 * x.3 + 2) then bif dOk (attI (cutI x.10 0 12)) 0 0 0 1 0 then dPutV (attI (cutI x.10 0 12)) 0 0 0 false 1 0 else 0 else 0), AVal.bool (casB s.3 (2 * n + 5 + 2 * t + 3 * x.3 + 2) x.10)]), some (Entry.ints (some .u64) (bif casB s.3 (2 * n + 5 + 2 * t + 3 * x.3 + 2) x.10 then putI s.3 (2 * n + 5 + 2 * t + 3 * x.3 + 2) (bif dOk (attI (cutI x.10 0 12)) 0 0 0 1 0 then dPutV (attI (cutI x.10 0 12)) 0 0 0 false 1 0 else 0) else s.3))]))))))) (Out.pre ((((0 : Int) ≤ t ∧ t ≤ (100000 : Int)) ∧ ((0 : Int) ≤ n ∧ n ≤ (100000 : Int)) ∧ (-1099511627776 : Int) ≤ cutI x.10 39 9 ∧ cutI x.10 39 (9 : Int) ≤ (1099511627776 : Int)) ∧ True) (Out.pre ((List.length s.3 = List.length s.3 ∧ (0 : Int) ≤ s.4 ∧ s.4 ≤ (4611686018427387904 : Int)) ∧ True) (Out.ret (AVal.bool true) [some (Entry.cells [AVal.int .i64 t, AVal.int .i64 n, AVal.int .i64 x.1, AVal.int .i64 (cutI x.10 39 9), AVal.int .i64 x.3, AVal.int .i64 x.4, AVal.int .i64 x.5, AVal.int .i64 x.6, AVal.bool x.7, AVal.int .i64 x.8, AVal.int .i64 x.9, AVal.int .u64 x.10, AVal.int .u64 x.11]), some (Entry.cells [AVal.int .i64 s.1, AVal.int .i64 s.2, AVal.slice 2 0 (List.length (putI s.3 (n + 4 + cutI x.10 39 9) (WU (peek s.3 (n + 4 + cutI x.10 39 9) + 1)))) 1, AVal.int .i64 (s.4 + 1), AVal.int .i64 4, AVal.int .i64 (n + 4 + cutI x.10 39 9), AVal.int .u64 (peek s.3 (n + 4 + cutI x.10 39 9)), AVal.int .u64 (bif inB s.3 (n + 4 + cutI x.10 39 9) then WU (peek s.3 (n + 4 + cutI x.10 39 9) + 1) else 0), AVal.bool (inB s.3 (n + 4 + cutI x.10 39 9))]), some (Entry.ints (some .u64) (putI s.3 (n + 4 + cutI x.10 39 9) (WU (peek s.3 (n + 4 + cutI x.10 39 9) + 1))))])))))))))))))
theorem xst_sum (t n : Int) (x : XE) (s : MS) (K : AVal → Heap Ob → Prop) (h : (xstO t n x s).run K) : CallOk (obI tbl) Try.prog 51 [.ptr 0 0, .ptr 1 0] (xH t n x s) K := by
  refine CallOk.trim (callOk_of (E := EX3) Try.checked.mixed (L := LL) (n := 10) (of_nf (q := (xstO t n x s).run K) (by kernel_rfl) h))
def xstS : Spec Ob := fun args h => match args, h with
  | [.ptr 0 0, .ptr 1 0], [some (.cells [.int .i64 t, .int .i64 n, .int .i64 pop, .int .i64 gave, .int .i64 u, .int .i64 sh, .int .i64 kd, .int .i64 ky, .bool only, .int .i64 att, .int .i64 at', .int .u64 found, .int .u64 word]), e1, e2] => (match memL 2 [e1, e2] with
    | some (l, s) => some (.pre (l = s.xs.length) (xstO t n ⟨pop, gave, u, sh, kd, ky, only, att, at', found, word⟩ s))
    | none => none)
  | _, _ => none
theorem xst_ok : Spec.ok (obI tbl) Try.prog 51 xstS := by
  intro args h o ho K hK
  unfold xstS at ho
  split at ho
  case h_2 => cases ho
  split at ho
  case h_2 => cases ho
  rename_i hm
  simp only [Option.some.injEq] at ho; subst ho
  obtain ⟨hl, hK⟩ := hK
  have hh := memL_eq hm hl
  simp only [List.cons.injEq, and_true] at hh
  obtain ⟨rfl, rfl⟩ := hh
  exact xst_sum _ _ _ _ K hK
noncomputable def EX4 := EX3.addS 51 xstS xst_ok
end Go.Sh

/- A round that is executed: the example's ten steps. -/
namespace Go.Sh
open Go Go.Proofs
variable [Con]
structure eqX (x y : XE) : Prop where
  h : x = y
structure eqM (x y : MS) : Prop where
  h : x = y
structure eqH (x y : Heap Ob) : Prop where
  h : x = y
def rx0 : XE := ⟨0, 0, 0, 1, 2, 7, false, 0, 0, 0, 0⟩
def rs0 : MS := ⟨4, 12, [0, 0, 167781383, 0, 0, 0, 0, 0, 0, 0, 0, 0, 0, 0, 0, 0, 0, 0, 0, 0, 0, 0, 0, 0, 0, 0, 0, 0, 0, 0, 0, 0, 0, 0, 0, 0, 0, 0, 0, 1127549184778243, 0, 0, 0, 0, 0, 0, 0, 0, 0, 0], 2, 2, 39, 0, 1127549184778243, true⟩
def ry0 : XE := ⟨0, 0, 0, 1, 2, 7, false, 0, 1, 1127549184778243, 0⟩
def rx1 : XE := ⟨0, 0, 0, 1, 2, 7, false, 0, 1, 1127549184778243, 0⟩
def rs1 : MS := ⟨4, 12, [0, 0, 167781383, 0, 0, 0, 0, 0, 0, 0, 0, 0, 0, 0, 0, 0, 0, 0, 0, 0, 0, 0, 0, 0, 0, 0, 0, 0, 0, 0, 0, 0, 0, 0, 0, 0, 0, 0, 0, 1127549184778243, 0, 0, 0, 0, 0, 0, 0, 0, 0, 0], 3, 1, 39, 1127549184778243, 1127549184778243, true⟩
def ry1 : XE := ⟨0, 0, 0, 1, 2, 7, false, 0, 2, 1127549184778243, 167781383⟩
def rx2 : XE := ⟨0, 0, 0, 1, 2, 7, false, 0, 2, 1127549184778243, 167781383⟩
def rs2 : MS := ⟨4, 12, [0, 0, 167781383, 0, 0, 0, 0, 0, 0, 0, 0, 0, 0, 0, 0, 0, 0, 0, 0, 0, 0, 0, 0, 0, 0, 0, 0, 0, 0, 0, 0, 0, 0, 0, 0, 0, 0, 0, 0, 1127549184778243, 0, 0, 0, 0, 0, 0, 0, 0, 0, 0], 4, 1, 2, 167781383, 167781383, true⟩
def ry2 : XE := ⟨0, 0, 0, 1, 2, 7, false, 0, 2, 1127549184778243, 167781383⟩
def rx3 : XE := ⟨0, 0, 0, 1, 2, 7, false, 0, 0, 0, 0⟩
def rs3 : MS := ⟨4, 12, [0, 0, 168823815, 0, 0, 0, 0, 0, 0, 0, 0, 0, 0, 0, 0, 0, 0, 0, 0, 0, 0, 0, 0, 0, 0, 0, 0, 0, 0, 0, 0, 0, 0, 0, 0, 0, 0, 0, 0, 1127549184778243, 0, 0, 0, 0, 0, 0, 0, 0, 0, 0], 5, 3, 2, 167781383, 168823815, true⟩
def ry3 : XE := ⟨0, 0, 0, 1, 2, 7, false, 0, 1, 1127549184778243, 0⟩
def rx4 : XE := ⟨0, 0, 0, 1, 2, 7, false, 0, 1, 1127549184778243, 0⟩
def rs4 : MS := ⟨4, 12, [0, 0, 168823815, 0, 0, 0, 0, 0, 0, 0, 0, 0, 0, 0, 0, 0, 0, 0, 0, 0, 0, 0, 0, 0, 0, 0, 0, 0, 0, 0, 0, 0, 0, 0, 0, 0, 0, 0, 0, 1127549184778243, 0, 0, 0, 0, 0, 0, 0, 0, 0, 0], 6, 1, 39, 1127549184778243, 1127549184778243, true⟩
def ry4 : XE := ⟨0, 0, 0, 1, 2, 7, false, 0, 3, 1127549184778243, 168823815⟩
def rx5 : XE := ⟨0, 0, 0, 1, 2, 7, false, 0, 3, 1127549184778243, 168823815⟩
def rs5 : MS := ⟨4, 12, [0, 0, 168823815, 0, 0, 0, 0, 0, 0, 0, 0, 0, 0, 0, 0, 0, 0, 0, 0, 0, 0, 0, 0, 0, 0, 0, 0, 0, 0, 0, 0, 0, 0, 0, 0, 0, 0, 0, 0, 1127549184778243, 0, 0, 0, 0, 0, 0, 0, 0, 0, 0], 7, 1, 2, 168823815, 168823815, true⟩
def ry5 : XE := ⟨0, 0, 0, 1, 2, 7, false, 0, 3, 1127549184778243, 168823815⟩
def rx6 : XE := ⟨0, 0, 0, 1, 2, 7, false, 0, 0, 0, 0⟩
def rs6 : MS := ⟨4, 12, [0, 0, 168823815, 0, 0, 0, 0, 0, 0, 0, 0, 0, 0, 0, 0, 0, 0, 0, 0, 0, 0, 0, 0, 0, 0, 0, 0, 0, 0, 0, 0, 0, 0, 0, 0, 0, 0, 0, 0, 1690499138199555, 0, 0, 0, 0, 0, 0, 0, 0, 0, 0], 8, 3, 39, 1127549184778243, 1690499138199555, true⟩
def ry6 : XE := ⟨0, 0, 0, 1, 2, 7, false, 0, 5, 1690499138199555, 0⟩
def rx7 : XE := ⟨0, 0, 0, 1, 2, 7, false, 0, 5, 1690499138199555, 0⟩
def rs7 : MS := ⟨4, 12, [0, 0, 168823815, 0, 0, 0, 0, 0, 0, 0, 0, 0, 0, 0, 0, 0, 0, 0, 0, 0, 0, 0, 0, 0, 0, 0, 0, 0, 0, 0, 0, 0, 0, 0, 0, 0, 0, 0, 0, 1690499138199555, 0, 0, 0, 0, 0, 0, 0, 0, 0, 0], 9, 1, 39, 1690499138199555, 1690499138199555, true⟩
def ry7 : XE := ⟨0, 0, 0, 1, 2, 7, false, 0, 6, 1690499138199555, 168823815⟩
def rx8 : XE := ⟨0, 0, 0, 1, 2, 7, false, 0, 6, 1690499138199555, 168823815⟩
def rs8 : MS := ⟨4, 12, [0, 0, 168823815, 0, 0, 0, 0, 0, 0, 0, 0, 0, 0, 0, 0, 0, 0, 0, 0, 0, 0, 0, 0, 0, 0, 0, 0, 0, 0, 0, 0, 0, 0, 0, 0, 0, 0, 0, 0, 1690499138199555, 0, 0, 0, 0, 0, 0, 0, 0, 0, 0], 10, 1, 2, 168823815, 168823815, true⟩
def ry8 : XE := ⟨0, 0, 0, 1, 2, 7, false, 0, 7, 1690499138199555, 168823815⟩
def rx9 : XE := ⟨0, 0, 0, 1, 2, 7, false, 0, 7, 1690499138199555, 168823815⟩
def rs9 : MS := ⟨4, 12, [0, 0, 201329671, 0, 0, 0, 0, 0, 0, 0, 0, 0, 0, 0, 0, 0, 0, 0, 0, 0, 0, 0, 0, 0, 0, 0, 0, 0, 0, 0, 0, 0, 0, 0, 0, 0, 0, 0, 0, 1690499138199555, 0, 0, 0, 0, 0, 0, 0, 0, 0, 0], 11, 3, 2, 168823815, 201329671, true⟩
def ry9 : XE := ⟨0, 0, 0, 1, 2, 7, false, 0, 7, 1690499138199555, 168823815⟩
def rs10 : MS := ⟨4, 12, [0, 0, 201329671, 0, 0, 0, 0, 0, 0, 0, 0, 0, 0, 0, 0, 0, 0, 0, 0, 0, 0, 0, 0, 0, 0, 0, 0, 0, 0, 0, 0, 0, 0, 0, 0, 0, 0, 0, 0, 3096224743817219, 0, 0, 0, 0, 0, 0, 0, 0, 0, 0], 12, 3, 39, 1690499138199555, 3096224743817219, true⟩
theorem rst0 (K : AVal → Heap Ob → Prop) (hK : K (.bool false) (xH 4 12 ry0 rs1)) : (xstO 4 12 rx0 rs0).run K := by
  with_unfolding_all repeat' (first | exact hK | trivial | decide | apply And.intro)
theorem rst1 (K : AVal → Heap Ob → Prop) (hK : K (.bool false) (xH 4 12 ry1 rs2)) : (xstO 4 12 rx1 rs1).run K := by
  with_unfolding_all repeat' (first | exact hK | trivial | decide | apply And.intro)
theorem rst2 (K : AVal → Heap Ob → Prop) (hK : K (.bool true) (xH 4 12 ry2 rs3)) : (xstO 4 12 rx2 rs2).run K := by
  with_unfolding_all repeat' (first | exact hK | trivial | decide | apply And.intro)
theorem rst3 (K : AVal → Heap Ob → Prop) (hK : K (.bool false) (xH 4 12 ry3 rs4)) : (xstO 4 12 rx3 rs3).run K := by
  with_unfolding_all repeat' (first | exact hK | trivial | decide | apply And.intro)
theorem rst4 (K : AVal → Heap Ob → Prop) (hK : K (.bool false) (xH 4 12 ry4 rs5)) : (xstO 4 12 rx4 rs4).run K := by
  with_unfolding_all repeat' (first | exact hK | trivial | decide | apply And.intro)
theorem rst5 (K : AVal → Heap Ob → Prop) (hK : K (.bool true) (xH 4 12 ry5 rs6)) : (xstO 4 12 rx5 rs5).run K := by
  with_unfolding_all repeat' (first | exact hK | trivial | decide | apply And.intro)
theorem rst6 (K : AVal → Heap Ob → Prop) (hK : K (.bool false) (xH 4 12 ry6 rs7)) : (xstO 4 12 rx6 rs6).run K := by
  with_unfolding_all repeat' (first | exact hK | trivial | decide | apply And.intro)
theorem rst7 (K : AVal → Heap Ob → Prop) (hK : K (.bool false) (xH 4 12 ry7 rs8)) : (xstO 4 12 rx7 rs7).run K := by
  with_unfolding_all repeat' (first | exact hK | trivial | decide | apply And.intro)
theorem rst8 (K : AVal → Heap Ob → Prop) (hK : K (.bool false) (xH 4 12 ry8 rs9)) : (xstO 4 12 rx8 rs8).run K := by
  with_unfolding_all repeat' (first | exact hK | trivial | decide | apply And.intro)
theorem rst9 (K : AVal → Heap Ob → Prop) (hK : K (.bool true) (xH 4 12 ry9 rs10)) : (xstO 4 12 rx9 rs9).run K := by
  with_unfolding_all repeat' (first | exact hK | trivial | decide | apply And.intro)
def rtabO (t n : Int) (x : XE) (s : MS) (l : Nat) : Out Ob := cond (ieq s.c 2) (.pre (l = s.xs.length ∧ t = 4 ∧ n = 12 ∧ eqX x rx0 ∧ eqM s rs0) (.ret (.bool false) (xH 4 12 ry0 rs1))) (cond (ieq s.c 3) (.pre (l = s.xs.length ∧ t = 4 ∧ n = 12 ∧ eqX x rx1 ∧ eqM s rs1) (.ret (.bool false) (xH 4 12 ry1 rs2))) (cond (ieq s.c 4) (.pre (l = s.xs.length ∧ t = 4 ∧ n = 12 ∧ eqX x rx2 ∧ eqM s rs2) (.ret (.bool true) (xH 4 12 ry2 rs3))) (cond (ieq s.c 5) (.pre (l = s.xs.length ∧ t = 4 ∧ n = 12 ∧ eqX x rx3 ∧ eqM s rs3) (.ret (.bool false) (xH 4 12 ry3 rs4))) (cond (ieq s.c 6) (.pre (l = s.xs.length ∧ t = 4 ∧ n = 12 ∧ eqX x rx4 ∧ eqM s rs4) (.ret (.bool false) (xH 4 12 ry4 rs5))) (cond (ieq s.c 7) (.pre (l = s.xs.length ∧ t = 4 ∧ n = 12 ∧ eqX x rx5 ∧ eqM s rs5) (.ret (.bool true) (xH 4 12 ry5 rs6))) (cond (ieq s.c 8) (.pre (l = s.xs.length ∧ t = 4 ∧ n = 12 ∧ eqX x rx6 ∧ eqM s rs6) (.ret (.bool false) (xH 4 12 ry6 rs7))) (cond (ieq s.c 9) (.pre (l = s.xs.length ∧ t = 4 ∧ n = 12 ∧ eqX x rx7 ∧ eqM s rs7) (.ret (.bool false) (xH 4 12 ry7 rs8))) (cond (ieq s.c 10) (.pre (l = s.xs.length ∧ t = 4 ∧ n = 12 ∧ eqX x rx8 ∧ eqM s rs8) (.ret (.bool false) (xH 4 12 ry8 rs9))) (cond (ieq s.c 11) (.pre (l = s.xs.length ∧ t = 4 ∧ n = 12 ∧ eqX x rx9 ∧ eqM s rs9) (.ret (.bool true) (xH 4 12 ry9 rs10))) (.pre False (.ret (.bool false) [])))))))))))
theorem rtab_sum (t n : Int) (x : XE) (s : MS) (l : Nat) (K : AVal → Heap Ob → Prop) (h : (rtabO t n x s l).run K) : l = s.xs.length ∧ (xstO t n x s).run K := by
  unfold rtabO at h
  by_cases c0 : ieq s.c 2 = true
  · simp only [c0, cond_true] at h
    obtain ⟨⟨hl, rfl, rfl, ⟨rfl⟩, ⟨rfl⟩⟩, hK⟩ := h
    exact ⟨hl, rst0 K hK⟩
  simp only [Bool.not_eq_true] at c0
  simp only [c0, cond_false] at h
  by_cases c1 : ieq s.c 3 = true
  · simp only [c1, cond_true] at h
    obtain ⟨⟨hl, rfl, rfl, ⟨rfl⟩, ⟨rfl⟩⟩, hK⟩ := h
    exact ⟨hl, rst1 K hK⟩
  simp only [Bool.not_eq_true] at c1
  simp only [c1, cond_false] at h
  by_cases c2 : ieq s.c 4 = true
  · simp only [c2, cond_true] at h
    obtain ⟨⟨hl, rfl, rfl, ⟨rfl⟩, ⟨rfl⟩⟩, hK⟩ := h
    exact ⟨hl, rst2 K hK⟩
  simp only [Bool.not_eq_true] at c2
  simp only [c2, cond_false] at h
  by_cases c3 : ieq s.c 5 = true
  · simp only [c3, cond_true] at h
    obtain ⟨⟨hl, rfl, rfl, ⟨rfl⟩, ⟨rfl⟩⟩, hK⟩ := h
    exact ⟨hl, rst3 K hK⟩
  simp only [Bool.not_eq_true] at c3
  simp only [c3, cond_false] at h
  by_cases c4 : ieq s.c 6 = true
  · simp only [c4, cond_true] at h
    obtain ⟨⟨hl, rfl, rfl, ⟨rfl⟩, ⟨rfl⟩⟩, hK⟩ := h
    exact ⟨hl, rst4 K hK⟩
  simp only [Bool.not_eq_true] at c4
  simp only [c4, cond_false] at h
  by_cases c5 : ieq s.c 7 = true
  · simp only [c5, cond_true] at h
    obtain ⟨⟨hl, rfl, rfl, ⟨rfl⟩, ⟨rfl⟩⟩, hK⟩ := h
    exact ⟨hl, rst5 K hK⟩
  simp only [Bool.not_eq_true] at c5
  simp only [c5, cond_false] at h
  by_cases c6 : ieq s.c 8 = true
  · simp only [c6, cond_true] at h
    obtain ⟨⟨hl, rfl, rfl, ⟨rfl⟩, ⟨rfl⟩⟩, hK⟩ := h
    exact ⟨hl, rst6 K hK⟩
  simp only [Bool.not_eq_true] at c6
  simp only [c6, cond_false] at h
  by_cases c7 : ieq s.c 9 = true
  · simp only [c7, cond_true] at h
    obtain ⟨⟨hl, rfl, rfl, ⟨rfl⟩, ⟨rfl⟩⟩, hK⟩ := h
    exact ⟨hl, rst7 K hK⟩
  simp only [Bool.not_eq_true] at c7
  simp only [c7, cond_false] at h
  by_cases c8 : ieq s.c 10 = true
  · simp only [c8, cond_true] at h
    obtain ⟨⟨hl, rfl, rfl, ⟨rfl⟩, ⟨rfl⟩⟩, hK⟩ := h
    exact ⟨hl, rst8 K hK⟩
  simp only [Bool.not_eq_true] at c8
  simp only [c8, cond_false] at h
  by_cases c9 : ieq s.c 11 = true
  · simp only [c9, cond_true] at h
    obtain ⟨⟨hl, rfl, rfl, ⟨rfl⟩, ⟨rfl⟩⟩, hK⟩ := h
    exact ⟨hl, rst9 K hK⟩
  simp only [Bool.not_eq_true] at c9
  simp only [c9, cond_false] at h
  exact h.1.elim
def rtabS : Spec Ob := fun args h => match args, h with
  | [.ptr 0 0, .ptr 1 0], [some (.cells [.int .i64 t, .int .i64 n, .int .i64 pop, .int .i64 gave, .int .i64 u, .int .i64 sh, .int .i64 kd, .int .i64 ky, .bool only, .int .i64 att, .int .i64 at', .int .u64 found, .int .u64 word]), e1, e2] => (match memL 2 [e1, e2] with
    | some (l, s) => some (rtabO t n ⟨pop, gave, u, sh, kd, ky, only, att, at', found, word⟩ s l)
    | none => none)
  | _, _ => none
theorem rtab_ok : Spec.ok (obI tbl) Try.prog 51 rtabS := by
  intro args h o ho K hK
  unfold rtabS at ho
  split at ho
  case h_2 => cases ho
  split at ho
  case h_2 => cases ho
  rename_i hm
  simp only [Option.some.injEq] at ho; subst ho
  obtain ⟨hl, hK⟩ := rtab_sum _ _ _ _ _ K hK
  have hh := memL_eq hm hl
  simp only [List.cons.injEq, and_true] at hh
  obtain ⟨rfl, rfl⟩ := hh
  exact xst_sum _ _ _ _ K hK
noncomputable def EXR := EX3.addS 51 rtabS rtab_ok
end Go.Sh

/- A round that is executed: the example's rounds. -/
namespace Go.Sh
open Go Go.Proofs
variable [Con]
def rh0 : Heap Ob := [memC 1 rs0, memX rs0, some (.cells [.ptr 3 0, .ptr 4 0, .ptr 5 0]), xC 4 12 rx0, xC 4 12 rx0, xC 4 12 rx0]
def rh1 : Heap Ob := [memC 1 rs10, memX rs10, some (.cells [.ptr 3 0, .ptr 4 0, .ptr 5 0]), xC 4 12 ry2, xC 4 12 ry5, xC 4 12 ry9]
def rndS : Spec Ob := fun args h => match args with
  | [.ptr 0 0, .int .i64 20, .slice 2 0 3 1] => some (.pre (eqH h rh0) (.ret (.tup [.int .i64 10, .raw (Value.slice none 0 0)]) rh1))
  | _ => none
theorem rnd_sum (K : AVal → Heap Ob → Prop) (hK : K (.tup [.int .i64 10, .raw (Value.slice none 0 0)]) rh1) : CallOk (obI tbl) Try.prog 11 [.ptr 0 0, .int .i64 20, .slice 2 0 3 1] rh0 K := by
  refine CallOk.trim (callOk_of (E := EXR) Try.checked.mixed (L := LL) (n := 10) (of_nf (q := ((0 : Int) ≤ (0 : Int) ∧ (0 : Int) < (↑3 : Int)) ∧ ((0 : Int) ≤ (0 : Int) ∧ (0 : Int) < (↑1 : Int)) ∧ (50 = 50 ∧ (4 : Int) = (4 : Int) ∧ (12 : Int) = (12 : Int) ∧ eqX { pop := (0 : Int), gave := (0 : Int), u := (0 : Int), sh := (1 : Int), kd := (2 : Int), ky := (7 : Int), only := false, att := (0 : Int), at' := (0 : Int), found := (0 : Int), word := (0 : Int) } rx0 ∧ eqM { t := (4 : Int), n := (12 : Int), xs := [0, 0, 167781383, 0, 0, 0, 0, 0, 0, 0, 0, 0, 0, 0, 0, 0, 0, 0, 0, 0, 0, 0, 0, 0, 0, 0, 0, 0, 0, 0, 0, 0, 0, 0, 0, 0, 0, 0, 0, 1127549184778243, 0, 0, 0, 0, 0, 0, 0, 0, 0, 0], c := (2 : Int), k := (2 : Int), a := (39 : Int), o := (0 : Int), w := (1127549184778243 : Int), ok := true } rs0) ∧ (50 = 50 ∧ (4 : Int) = (4 : Int) ∧ (12 : Int) = (12 : Int) ∧ eqX { pop := (0 : Int), gave := (0 : Int), u := (0 : Int), sh := (1 : Int), kd := (2 : Int), ky := (7 : Int), only := false, att := (0 : Int), at' := (1 : Int), found := (1127549184778243 : Int), word := (0 : Int) } rx1 ∧ eqM { t := (4 : Int), n := (12 : Int), xs := [0, 0, 167781383, 0, 0, 0, 0, 0, 0, 0, 0, 0, 0, 0, 0, 0, 0, 0, 0, 0, 0, 0, 0, 0, 0, 0, 0, 0, 0, 0, 0, 0, 0, 0, 0, 0, 0, 0, 0, 1127549184778243, 0, 0, 0, 0, 0, 0, 0, 0, 0, 0], c := (3 : Int), k := (1 : Int), a := (39 : Int), o := (1127549184778243 : Int), w := (1127549184778243 : Int), ok := true } rs1) ∧ (50 = 50 ∧ (4 : Int) = (4 : Int) ∧ (12 : Int) = (12 : Int) ∧ eqX { pop := (0 : Int), gave := (0 : Int), u := (0 : Int), sh := (1 : Int), kd := (2 : Int), ky := (7 : Int), only := false, att := (0 : Int), at' := (2 : Int), found := (1127549184778243 : Int), word := (167781383 : Int) } rx2 ∧ eqM { t := (4 : Int), n := (12 : Int), xs := [0, 0, 167781383, 0, 0, 0, 0, 0, 0, 0, 0, 0, 0, 0, 0, 0, 0, 0, 0, 0, 0, 0, 0, 0, 0, 0, 0, 0, 0, 0, 0, 0, 0, 0, 0, 0, 0, 0, 0, 1127549184778243, 0, 0, 0, 0, 0, 0, 0, 0, 0, 0], c := (4 : Int), k := (1 : Int), a := (2 : Int), o := (167781383 : Int), w := (167781383 : Int), ok := true } rs2) ∧ ((0 : Int) ≤ W (0 + 1) ∧ W (0 + 1) < (↑3 : Int)) ∧ ((0 : Int) ≤ (0 : Int) ∧ (0 : Int) < (↑1 : Int)) ∧ (50 = 50 ∧ (4 : Int) = (4 : Int) ∧ (12 : Int) = (12 : Int) ∧ eqX { pop := (0 : Int), gave := (0 : Int), u := (0 : Int), sh := (1 : Int), kd := (2 : Int), ky := (7 : Int), only := false, att := (0 : Int), at' := (0 : Int), found := (0 : Int), word := (0 : Int) } rx3 ∧ eqM { t := (4 : Int), n := (12 : Int), xs := [0, 0, 168823815, 0, 0, 0, 0, 0, 0, 0, 0, 0, 0, 0, 0, 0, 0, 0, 0, 0, 0, 0, 0, 0, 0, 0, 0, 0, 0, 0, 0, 0, 0, 0, 0, 0, 0, 0, 0, 1127549184778243, 0, 0, 0, 0, 0, 0, 0, 0, 0, 0], c := (5 : Int), k := (3 : Int), a := (2 : Int), o := (167781383 : Int), w := (168823815 : Int), ok := true } rs3) ∧ (50 = 50 ∧ (4 : Int) = (4 : Int) ∧ (12 : Int) = (12 : Int) ∧ eqX { pop := (0 : Int), gave := (0 : Int), u := (0 : Int), sh := (1 : Int), kd := (2 : Int), ky := (7 : Int), only := false, att := (0 : Int), at' := (1 : Int), found := (1127549184778243 : Int), word := (0 : Int) } rx4 ∧ eqM { t := (4 : Int), n := (12 : Int), xs := [0, 0, 168823815, 0, 0, 0, 0, 0, 0, 0, 0, 0, 0, 0, 0, 0, 0, 0, 0, 0, 0, 0, 0, 0, 0, 0, 0, 0, 0, 0, 0, 0, 0, 0, 0, 0, 0, 0, 0, 1127549184778243, 0, 0, 0, 0, 0, 0, 0, 0, 0, 0], c := (6 : Int), k := (1 : Int), a := (39 : Int), o := (1127549184778243 : Int), w := (1127549184778243 : Int), ok := true } rs4) ∧ (50 = 50 ∧ (4 : Int) = (4 : Int) ∧ (12 : Int) = (12 : Int) ∧ eqX { pop := (0 : Int), gave := (0 : Int), u := (0 : Int), sh := (1 : Int), kd := (2 : Int), ky := (7 : Int), only := false, att := (0 : Int), at' := (3 : Int), found := (1127549184778243 : Int), word := (168823815 : Int) } rx5 ∧ eqM { t := (4 : Int), n := (12 : Int), xs := [0, 0, 168823815, 0, 0, 0, 0, 0, 0, 0, 0, 0, 0, 0, 0, 0, 0, 0, 0, 0, 0, 0, 0, 0, 0, 0, 0, 0, 0, 0, 0, 0, 0, 0, 0, 0, 0, 0, 0, 1127549184778243, 0, 0, 0, 0, 0, 0, 0, 0, 0, 0], c := (7 : Int), k := (1 : Int), a := (2 : Int), o := (168823815 : Int), w := (168823815 : Int), ok := true } rs5) ∧ ((0 : Int) ≤ W (W (0 + 1) + 1) ∧ W (W (0 + 1) + 1) < (↑3 : Int)) ∧ ((0 : Int) ≤ (0 : Int) ∧ (0 : Int) < (↑1 : Int)) ∧ (50 = 50 ∧ (4 : Int) = (4 : Int) ∧ (12 : Int) = (12 : Int) ∧ eqX { pop := (0 : Int), gave := (0 : Int), u := (0 : Int), sh := (1 : Int), kd := (2 : Int), ky := (7 : Int), only := false, att := (0 : Int), at' := (0 : Int), found := (0 : Int), word := (0 : Int) } rx6 ∧ eqM { t := (4 : Int), n := (12 : Int), xs := [0, 0, 168823815, 0, 0, 0, 0, 0, 0, 0, 0, 0, 0, 0, 0, 0, 0, 0, 0, 0, 0, 0, 0, 0, 0, 0, 0, 0, 0, 0, 0, 0, 0, 0, 0, 0, 0, 0, 0, 1690499138199555, 0, 0, 0, 0, 0, 0, 0, 0, 0, 0], c := (8 : Int), k := (3 : Int), a := (39 : Int), o := (1127549184778243 : Int), w := (1690499138199555 : Int), ok := true } rs6) ∧ (50 = 50 ∧ (4 : Int) = (4 : Int) ∧ (12 : Int) = (12 : Int) ∧ eqX { pop := (0 : Int), gave := (0 : Int), u := (0 : Int), sh := (1 : Int), kd := (2 : Int), ky := (7 : Int), only := false, att := (0 : Int), at' := (5 : Int), found := (1690499138199555 : Int), word := (0 : Int) } rx7 ∧ eqM { t := (4 : Int), n := (12 : Int), xs := [0, 0, 168823815, 0, 0, 0, 0, 0, 0, 0, 0, 0, 0, 0, 0, 0, 0, 0, 0, 0, 0, 0, 0, 0, 0, 0, 0, 0, 0, 0, 0, 0, 0, 0, 0, 0, 0, 0, 0, 1690499138199555, 0, 0, 0, 0, 0, 0, 0, 0, 0, 0], c := (9 : Int), k := (1 : Int), a := (39 : Int), o := (1690499138199555 : Int), w := (1690499138199555 : Int), ok := true } rs7) ∧ (50 = 50 ∧ (4 : Int) = (4 : Int) ∧ (12 : Int) = (12 : Int) ∧ eqX { pop := (0 : Int), gave := (0 : Int), u := (0 : Int), sh := (1 : Int), kd := (2 : Int), ky := (7 : Int), only := false, att := (0 : Int), at' := (6 : Int), found := (1690499138199555 : Int), word := (168823815 : Int) } rx8 ∧ eqM { t := (4 : Int), n := (12 : Int), xs := [0, 0, 168823815, 0, 0, 0, 0, 0, 0, 0, 0, 0, 0, 0, 0, 0, 0, 0, 0, 0, 0, 0, 0, 0, 0, 0, 0, 0, 0, 0, 0, 0, 0, 0, 0, 0, 0, 0, 0, 1690499138199555, 0, 0, 0, 0, 0, 0, 0, 0, 0, 0], c := (10 : Int), k := (1 : Int), a := (2 : Int), o := (168823815 : Int), w := (168823815 : Int), ok := true } rs8) ∧ (50 = 50 ∧ (4 : Int) = (4 : Int) ∧ (12 : Int) = (12 : Int) ∧ eqX { pop := (0 : Int), gave := (0 : Int), u := (0 : Int), sh := (1 : Int), kd := (2 : Int), ky := (7 : Int), only := false, att := (0 : Int), at' := (7 : Int), found := (1690499138199555 : Int), word := (168823815 : Int) } rx9 ∧ eqM { t := (4 : Int), n := (12 : Int), xs := [0, 0, 201329671, 0, 0, 0, 0, 0, 0, 0, 0, 0, 0, 0, 0, 0, 0, 0, 0, 0, 0, 0, 0, 0, 0, 0, 0, 0, 0, 0, 0, 0, 0, 0, 0, 0, 0, 0, 0, 1690499138199555, 0, 0, 0, 0, 0, 0, 0, 0, 0, 0], c := (11 : Int), k := (3 : Int), a := (2 : Int), o := (168823815 : Int), w := (201329671 : Int), ok := true } rs9) ∧ K (AVal.tup [AVal.int .i64 (W (W (W (0 + W (W (W (0 + 1) + 1) + 1)) + W (W (W (0 + 1) + 1) + 1)) + W (W (W (W (0 + 1) + 1) + 1) + 1))), AVal.raw (Value.slice none 0 0)]) [some (Entry.cells [AVal.int .i64 4, AVal.int .i64 12, AVal.slice 1 0 50 1, AVal.int .i64 12, AVal.int .i64 3, AVal.int .i64 39, AVal.int .u64 1690499138199555, AVal.int .u64 3096224743817219, AVal.bool true]), some (Entry.ints (some .u64) [0, 0, 201329671, 0, 0, 0, 0, 0, 0, 0, 0, 0, 0, 0, 0, 0, 0, 0, 0, 0, 0, 0, 0, 0, 0, 0, 0, 0, 0, 0, 0, 0, 0, 0, 0, 0, 0, 0, 0, 3096224743817219, 0, 0, 0, 0, 0, 0, 0, 0, 0, 0]), some (Entry.cells [AVal.ptr 3 0, AVal.ptr 4 0, AVal.ptr 5 0]), some (Entry.cells [AVal.int .i64 4, AVal.int .i64 12, AVal.int .i64 0, AVal.int .i64 0, AVal.int .i64 0, AVal.int .i64 1, AVal.int .i64 2, AVal.int .i64 7, AVal.bool false, AVal.int .i64 0, AVal.int .i64 2, AVal.int .u64 1127549184778243, AVal.int .u64 167781383]), some (Entry.cells [AVal.int .i64 4, AVal.int .i64 12, AVal.int .i64 0, AVal.int .i64 0, AVal.int .i64 0, AVal.int .i64 1, AVal.int .i64 2, AVal.int .i64 7, AVal.bool false, AVal.int .i64 0, AVal.int .i64 3, AVal.int .u64 1127549184778243, AVal.int .u64 168823815]), some (Entry.cells [AVal.int .i64 4, AVal.int .i64 12, AVal.int .i64 0, AVal.int .i64 0, AVal.int .i64 0, AVal.int .i64 1, AVal.int .i64 2, AVal.int .i64 7, AVal.bool false, AVal.int .i64 0, AVal.int .i64 7, AVal.int .u64 1690499138199555, AVal.int .u64 168823815])]) (by kernel_rfl) ?_))
  with_unfolding_all repeat' (first | exact hK | exact ⟨rfl⟩ | trivial | apply And.intro)
theorem rnd_ok : Spec.ok (obI tbl) Try.prog 11 rndS := by
  intro args h o ho K hK
  unfold rndS at ho
  split at ho
  case h_2 => cases ho
  simp only [Option.some.injEq] at ho; subst ho
  obtain ⟨⟨rfl⟩, hK⟩ := hK
  exact rnd_sum K hK
noncomputable def EXQ := EXR.addS 11 rndS rnd_ok
end Go.Sh

/- A round that is executed: the example. -/
namespace Go.Sh
open Go Go.Proofs
variable [Con]
def awake16S : Spec Ob := fun args h => match args, h with
  | [], [] => some (.pre True (.ret (.bool true) ([])))
  | _, _ => none
theorem awake16_ok : Spec.ok (obI tbl) Try.prog 5 awake16S := by
  intro args h o ho K hK
  unfold awake16S at ho
  split at ho
  case h_2 => cases ho
  simp only [Option.some.injEq] at ho; subst ho
  obtain ⟨hp, hK⟩ := hK
  have hK : K (.bool true) ([]) := hK
  refine CallOk.trim (callOk_of (E := EXQ) Try.checked.mixed (L := LL) (n := 10) (of_nf (q := True ∧ (((0 : Int) ≤ (4 : Int) ∧ (4 : Int) ≤ (100000 : Int)) ∧ (0 : Int) ≤ (12 : Int) ∧ (12 : Int) ≤ (100000 : Int)) ∧ ((((0 : Int) ≤ (4 : Int) ∧ (4 : Int) ≤ (100000 : Int)) ∧ (0 : Int) ≤ (12 : Int) ∧ (12 : Int) ≤ (100000 : Int)) ∧ True) ∧ ((0 : Int) ≤ (2 : Int) * 12 + 5 * 4 + 6 ∧ 2 * 12 + 5 * 4 + (6 : Int) = (2 : Int) * 12 + 5 * 4 + 6 ∧ 2 * 12 + 5 * 4 + (6 : Int) ≤ (4294967296 : Int)) ∧ (4 : Int) ≠ (0 : Int) ∧ (12 : Int) ≠ (0 : Int) ∧ (13 : Int) ≠ (0 : Int) ∧ (3 : Int) ≠ (0 : Int) ∧ (((0 : Int) ≤ (7 : Int) ∧ (7 : Int) < (1024 : Int)) ∧ ((0 : Int) ≤ (9 : Int) ∧ (9 : Int) < (512 : Int)) ∧ ((0 : Int) ≤ (0 : Int) ∧ (0 : Int) < (32 : Int)) ∧ (0 : Int) ≤ W 5 ∧ W (5 : Int) < (262144 : Int)) ∧ (50 = 50 ∧ (0 : Int) ≤ (0 : Int) ∧ (0 : Int) ≤ (4611686018427387904 : Int)) ∧ ((((0 : Int) ≤ (4 : Int) ∧ (4 : Int) ≤ (100000 : Int)) ∧ ((0 : Int) ≤ (12 : Int) ∧ (12 : Int) ≤ (100000 : Int)) ∧ (-1099511627776 : Int) ≤ Int.tmod (W 0) 4 ∧ Int.tmod (W 0) (4 : Int) ≤ (1099511627776 : Int)) ∧ True) ∧ (((0 : Int) ≤ (3 : Int) ∧ (3 : Int) ≤ (1000000 : Int)) ∧ ((0 : Int) ≤ W (1 + Int.tmod (W 1) 12) ∧ W (1 + Int.tmod (W 1) 12) ≤ (1000000 : Int)) ∧ ((0 : Int) ≤ W 5 ∧ W (5 : Int) ≤ (1000000 : Int)) ∧ ((0 : Int) ≤ Int.tmod (W 3) 13 ∧ Int.tmod (W 3) (13 : Int) ≤ (1000000 : Int)) ∧ ((0 : Int) ≤ (2 : Int) ∧ (2 : Int) ≤ (1000000 : Int)) ∧ (0 : Int) ≤ W 0 ∧ W (0 : Int) ≤ (1000000 : Int)) ∧ ((50 = 50 ∧ (0 : Int) ≤ (0 : Int) + 1 ∧ 0 + (1 : Int) ≤ (4611686018427387904 : Int)) ∧ True) ∧ (3 : Int) ≠ (0 : Int) ∧ (eqH [some (Entry.cells [AVal.int .i64 4, AVal.int .i64 12, AVal.slice 1 0 50 1, AVal.int .i64 (0 + 1 + 1), AVal.int .i64 2, AVal.int .i64 (2 * 12 + 5 + 2 * 4 + 3 * Int.tmod (W 0) 4 + 2), AVal.int .u64 (peek (putI (List.replicate (Int.toNat (2 * 12 + 5 * 4 + 6)) 0) (W (1 + Int.tmod (W 1) 12)) (putV 7 9 false 0 (W 5))) (2 * 12 + 5 + 2 * 4 + 3 * Int.tmod (W 0) 4 + 2)), AVal.int .u64 (dPutV (3 % 4096) (W (1 + Int.tmod (W 1) 12) % 512) (W 5 % 262144) (Int.tmod (W 3) 13 % 512) false (2 % 8) (W 0 % 1024)), AVal.bool true]), some (Entry.ints (some .u64) (putI (putI (List.replicate (Int.toNat (2 * 12 + 5 * 4 + 6)) 0) (W (1 + Int.tmod (W 1) 12)) (putV 7 9 false 0 (W 5))) (2 * 12 + 5 + 2 * 4 + 3 * Int.tmod (W 0) 4 + 2) (dPutV (3 % 4096) (W (1 + Int.tmod (W 1) 12) % 512) (W 5 % 262144) (Int.tmod (W 3) 13 % 512) false (2 % 8) (W 0 % 1024)))), some (Entry.cells [AVal.ptr 3 0, AVal.ptr 4 0, AVal.ptr 5 0]), some (Entry.cells [AVal.int .i64 4, AVal.int .i64 12, AVal.int .i64 0, AVal.int .i64 0, AVal.int .i64 0, AVal.int .i64 1, AVal.int .i64 2, AVal.int .i64 7, AVal.bool false, AVal.int .i64 0, AVal.int .i64 0, AVal.int .u64 0, AVal.int .u64 0]), some (Entry.cells [AVal.int .i64 4, AVal.int .i64 12, AVal.int .i64 0, AVal.int .i64 0, AVal.int .i64 0, AVal.int .i64 1, AVal.int .i64 2, AVal.int .i64 7, AVal.bool false, AVal.int .i64 0, AVal.int .i64 0, AVal.int .u64 0, AVal.int .u64 0]), some (Entry.cells [AVal.int .i64 4, AVal.int .i64 12, AVal.int .i64 0, AVal.int .i64 0, AVal.int .i64 0, AVal.int .i64 1, AVal.int .i64 2, AVal.int .i64 7, AVal.bool false, AVal.int .i64 0, AVal.int .i64 0, AVal.int .u64 0, AVal.int .u64 0])] [some (Entry.cells [AVal.int .i64 4, AVal.int .i64 12, AVal.slice 1 0 50 1, AVal.int .i64 2, AVal.int .i64 2, AVal.int .i64 39, AVal.int .u64 0, AVal.int .u64 1127549184778243, AVal.bool true]), some (Entry.ints (some .u64) [0, 0, 167781383, 0, 0, 0, 0, 0, 0, 0, 0, 0, 0, 0, 0, 0, 0, 0, 0, 0, 0, 0, 0, 0, 0, 0, 0, 0, 0, 0, 0, 0, 0, 0, 0, 0, 0, 0, 0, 1127549184778243, 0, 0, 0, 0, 0, 0, 0, 0, 0, 0]), some (Entry.cells [AVal.ptr 3 0, AVal.ptr 4 0, AVal.ptr 5 0]), some (Entry.cells [AVal.int .i64 4, AVal.int .i64 12, AVal.int .i64 0, AVal.int .i64 0, AVal.int .i64 0, AVal.int .i64 1, AVal.int .i64 2, AVal.int .i64 7, AVal.bool false, AVal.int .i64 0, AVal.int .i64 0, AVal.int .u64 0, AVal.int .u64 0]), some (Entry.cells [AVal.int .i64 4, AVal.int .i64 12, AVal.int .i64 0, AVal.int .i64 0, AVal.int .i64 0, AVal.int .i64 1, AVal.int .i64 2, AVal.int .i64 7, AVal.bool false, AVal.int .i64 0, AVal.int .i64 0, AVal.int .u64 0, AVal.int .u64 0]), some (Entry.cells [AVal.int .i64 4, AVal.int .i64 12, AVal.int .i64 0, AVal.int .i64 0, AVal.int .i64 0, AVal.int .i64 1, AVal.int .i64 2, AVal.int .i64 7, AVal.bool false, AVal.int .i64 0, AVal.int .i64 0, AVal.int .u64 0, AVal.int .u64 0])] ∧ True) ∧ ((50 = 50 ∧ True) ∧ True) ∧ ((0 : Int) ≤ peek [0, 0, 201329671, 0, 0, 0, 0, 0, 0, 0, 0, 0, 0, 0, 0, 0, 0, 0, 0, 0, 0, 0, 0, 0, 0, 0, 0, 0, 0, 0, 0, 0, 0, 0, 0, 0, 0, 0, 0, 3096224743817219, 0, 0, 0, 0, 0, 0, 0, 0, 0, 0] 2 ∧ peek [0, 0, 201329671, 0, 0, 0, 0, 0, 0, 0, 0, 0, 0, 0, 0, 0, 0, 0, 0, 0, 0, 0, 0, 0, 0, 0, 0, 0, 0, 0, 0, 0, 0, 0, 0, 0, 0, 0, 0, 3096224743817219, 0, 0, 0, 0, 0, 0, 0, 0, 0, 0] (2 : Int) ≤ (18446744073709551615 : Int)) ∧ ((((0 : Int) ≤ (4 : Int) ∧ (4 : Int) ≤ (100000 : Int)) ∧ ((0 : Int) ≤ (12 : Int) ∧ (12 : Int) ≤ (100000 : Int)) ∧ (-1099511627776 : Int) ≤ (0 : Int) ∧ (0 : Int) ≤ (1099511627776 : Int)) ∧ True) ∧ ((50 = 50 ∧ True) ∧ True) ∧ ((0 : Int) ≤ peek [0, 0, 201329671, 0, 0, 0, 0, 0, 0, 0, 0, 0, 0, 0, 0, 0, 0, 0, 0, 0, 0, 0, 0, 0, 0, 0, 0, 0, 0, 0, 0, 0, 0, 0, 0, 0, 0, 0, 0, 3096224743817219, 0, 0, 0, 0, 0, 0, 0, 0, 0, 0] (2 * 12 + 5 + 2 * 4 + 3 * 0 + 2) ∧ peek [0, 0, 201329671, 0, 0, 0, 0, 0, 0, 0, 0, 0, 0, 0, 0, 0, 0, 0, 0, 0, 0, 0, 0, 0, 0, 0, 0, 0, 0, 0, 0, 0, 0, 0, 0, 0, 0, 0, 0, 3096224743817219, 0, 0, 0, 0, 0, 0, 0, 0, 0, 0] (2 * 12 + 5 + 2 * 4 + 3 * 0 + 2) ≤ (18446744073709551615 : Int)) ∧ K (AVal.bool true) []) (by kernel_rfl) ?_))
  with_unfolding_all repeat' (first | exact hK | exact ⟨rfl⟩ | trivial | decide | apply And.intro)
noncomputable def EX5 := EX4.addS 5 awake16S awake16_ok
end Go.Sh

/- A list's copy; two lists that are one: of words. -/
namespace Go.Sh
open Go Go.Proofs
variable [Con]
def clone64S : Spec Ob := fun args h => match args, h with
  | [.slice 0 0 n 1], [some (.ints (some .u64) xs)] => some (.pre (n = xs.length ∧ n ≤ 4294967296) (.ret (.slice 1 0 xs.length 1) [some (.ints (some .u64) xs), some (.ints (some .u64) xs)]))
  | _, _ => none
theorem clone64_ok : Spec.ok (obI tbl) Try.prog 27 clone64S := by
  intro args h o ho K hK
  unfold clone64S at ho
  split at ho
  case h_2 => cases ho
  rename_i n xs
  simp only [Option.some.injEq] at ho; subst ho
  obtain ⟨⟨rfl, hp⟩, hK⟩ := hK
  have hK : K (.slice 1 0 xs.length 1) [some (.ints (some .u64) xs), some (.ints (some .u64) xs)] := hK
  refine CallOk.trim (CallOk.castR (cs := [(.slot 0, .ints (some .u64))]) (callOk_of (E := EX5) Try.checked.mixed (L := LL) (n := 10) (of_nf (q := ∀ (b : Bool), (b = true → List.length xs = 0) → bif b then K (AVal.slice 1 0 0 1) [some (Entry.ints (some .u64) xs), some (Entry.ints (some .u64) [])] else (0 + List.length xs ≤ List.length xs ∧ 0 + List.length xs ≤ (4294967296 : Nat)) ∧ K (AVal.slice 1 0 (0 + List.length xs) 1) [some (Entry.ints (some .u64) xs), some (Entry.ints (some .u64) ([] ++ List.take (List.length xs) (List.drop 0 xs)))]) (by kernel_rfl) ?_)))
  intro b hb
  refine cond_go (fun e => ?_) (fun e => ⟨⟨by omega, by omega⟩, ?_⟩)
  · have h0 := List.length_eq_zero_iff.1 (hb e)
    subst h0; exact hK
  · simpa using hK

structure okJ (xs ys : List Int) (i : Nat) : Prop where
  h1 : i ≤ xs.length
  h2 : xs.length = ys.length
  h3 : xs.take i = ys.take i
def HJ (xs ys : List Int) : Hint Ob := { X := Nat, st := fun i => ([.slice 0 0 xs.length 1, .slice 1 0 ys.length 1] ++ List.replicate 10 .top ++ [.int .i64 (xs.length : Int), .int .i64 (i : Int)] ++ List.replicate 12 .top, [some (.ints (some .u64) xs), some (.ints (some .u64) ys)]), ok := okJ xs ys, mu := fun i => xs.length - i, keep := [0, 1, 12, 13] }
def eq64S : Spec Ob := fun args h => match args, h with
  | [.slice 0 0 n 1, .slice 1 0 m 1], [some (.ints (some .u64) xs), some (.ints (some .u64) ys)] => some (.pre ((n = xs.length ∧ m = ys.length) ∧ n ≤ 4294967296) (.ret (.bool (sameB xs ys)) [some (.ints (some .u64) xs), some (.ints (some .u64) ys)]))
  | _, _ => none
theorem eq64_ok : Spec.ok (obI tbl) Try.prog 28 eq64S := by
  intro args h o ho K hK
  unfold eq64S at ho
  split at ho
  case h_2 => cases ho
  rename_i n m xs ys
  simp only [Option.some.injEq] at ho; subst ho
  obtain ⟨⟨⟨rfl, rfl⟩, hp⟩, hK⟩ := hK
  have hK : K (.bool (sameB xs ys)) [some (.ints (some .u64) xs), some (.ints (some .u64) ys)] := hK
  refine (callOk_of (E := EX5) Try.checked.mixed (L := fun _ _ => some (.states (HJ xs ys))) (n := 10) (of_nf (q := bif !ieq (↑(List.length xs) : Int) (↑(List.length ys) : Int) then K (AVal.bool false) [some (Entry.ints (some .u64) xs), some (Entry.ints (some .u64) ys)] else okSt (HJ xs ys) (Hint.ok (HJ xs ys)) [AVal.slice 0 0 (List.length xs) 1, AVal.slice 1 0 (List.length ys) 1, AVal.top, AVal.top, AVal.top, AVal.top, AVal.top, AVal.top, AVal.top, AVal.top, AVal.top, AVal.top, AVal.int .i64 (↑(List.length xs) : Int), AVal.int .i64 0, AVal.top, AVal.top, AVal.top, AVal.top, AVal.top, AVal.top, AVal.top, AVal.top, AVal.top, AVal.top, AVal.top, AVal.top] [some (Entry.ints (some .u64) xs), some (Entry.ints (some .u64) ys)] ∧ ∀ (x : Nat), okJ xs ys x → bif ilt (↑x : Int) (↑(List.length xs) : Int) then ((0 : Int) ≤ (↑x : Int) ∧ (↑x : Int) < (↑(List.length xs) : Int)) ∧ 0 + Int.toNat (↑x : Int) * (1 : Nat) < List.length xs ∧ ((0 : Int) ≤ (↑x : Int) ∧ (↑x : Int) < (↑(List.length ys) : Int)) ∧ 0 + Int.toNat (↑x : Int) * (1 : Nat) < List.length ys ∧ bif !ieq (List.getD xs (0 + Int.toNat (↑x : Int) * 1) 0) (List.getD ys (0 + Int.toNat (↑x : Int) * 1) 0) then K (AVal.bool false) [some (Entry.ints (some .u64) xs), some (Entry.ints (some .u64) ys)] else okSt (HJ xs ys) (fun x' => Hint.ok (HJ xs ys) x' ∧ Hint.mu (HJ xs ys) x' < Hint.mu (HJ xs ys) x) [AVal.slice 0 0 (List.length xs) 1, AVal.slice 1 0 (List.length ys) 1, AVal.top, AVal.top, AVal.top, AVal.top, AVal.top, AVal.top, AVal.top, AVal.top, AVal.top, AVal.top, AVal.int .i64 (↑(List.length xs) : Int), AVal.int .i64 (W ((↑x : Int) + 1)), AVal.top, AVal.top, AVal.top, AVal.top, AVal.top, AVal.top, AVal.top, AVal.top, AVal.top, AVal.top, AVal.top, AVal.top] [some (Entry.ints (some .u64) xs), some (Entry.ints (some .u64) ys)] else K (AVal.bool true) [some (Entry.ints (some .u64) xs), some (Entry.ints (some .u64) ys)]) (by kernel_rfl) ?_))
  have hS : sameB xs ys = decide (xs = ys) := rfl
  refine cond_go (fun e => ?_) (fun e => ⟨okSt_intro (H := HJ xs ys) (0 : Nat) rfl ⟨Nat.zero_le _, ?_, rfl⟩, ?_⟩)
  · rw [ieq_eq] at e
    have : xs ≠ ys := by rintro rfl; simp at e
    rw [hS, decide_eq_false this] at hK; exact hK
  · rw [ieq_eq] at e; simp at e; omega
  · rintro i ⟨h1, h2, h3⟩
    refine cond_go (fun e1 => ?_) (fun e1 => ?_)
    · rw [ilt_eq, decide_eq_true_eq] at e1
      have hi : i < xs.length := by omega
      have e2 : 0 + (i : Int).toNat * 1 = i := by omega
      rw [e2]
      refine ⟨by omega, hi, by omega, by omega, cond_go (fun e3 => ?_) (fun e3 => ?_)⟩
      · rw [ieq_eq] at e3
        have : xs ≠ ys := by rintro rfl; simp at e3
        rw [hS, decide_eq_false this] at hK; exact hK
      · rw [ieq_eq] at e3
        have e3 : xs.getD i 0 = ys.getD i 0 := by simpa using e3
        have e4 : IntKind.wrap .i64 ((i : Int) + 1) = ((i + 1 : Nat) : Int) := by rw [W_in (by omega)]; rfl
        refine okSt_intro (H := HJ xs ys) (i + 1 : Nat) (by simp only [W, e4]; rfl) ⟨⟨hi, h2, ?_⟩, by show xs.length - (i + 1) < xs.length - i; omega⟩
        have hj : i < ys.length := by omega
        rw [List.getD_eq_getElem?_getD, List.getElem?_eq_getElem hi, List.getD_eq_getElem?_getD, List.getElem?_eq_getElem hj] at e3
        rw [List.take_succ_eq_append_getElem hi, List.take_succ_eq_append_getElem hj, h3]
        have e5 : xs[i] = ys[i] := by simpa using e3
        rw [e5]
    · rw [ilt_eq, decide_eq_false_iff_not] at e1
      have : xs = ys := by
        rw [List.take_of_length_le (by omega), List.take_of_length_le (by omega)] at h3; exact h3
      rw [hS, decide_eq_true this] at hK; exact hK

noncomputable def EX6 := (EX5.addS 27 clone64S clone64_ok).addS 28 eq64S eq64_ok
end Go.Sh

/- A round that is executed: a descriptor that is at rest. -/
namespace Go.Sh
open Go Go.Proofs
variable [Con]
theorem dcut_a {a b c d e f : Int} {m : Bool} (h : dOk a b c d e f = true) : cutI (dPutV a b c d m e f) 0 12 = a := by
  have h := dOk_true.1 h
  have hm : 0 ≤ bitI m ∧ bitI m ≤ 1 := by cases m <;> decide
  unfold cutI dPutV
  generalize bitI m = mm at hm ⊢
  show _ / 1 % 4096 = _
  omega
theorem dcut_b {a b c d e f : Int} {m : Bool} (h : dOk a b c d e f = true) : cutI (dPutV a b c d m e f) 12 9 = b := by
  have h := dOk_true.1 h
  have hm : 0 ≤ bitI m ∧ bitI m ≤ 1 := by cases m <;> decide
  unfold cutI dPutV
  generalize bitI m = mm at hm ⊢
  show _ / 4096 % 512 = _
  omega
theorem dcut_c {a b c d e f : Int} {m : Bool} (h : dOk a b c d e f = true) : cutI (dPutV a b c d m e f) 21 18 = c := by
  have h := dOk_true.1 h
  have hm : 0 ≤ bitI m ∧ bitI m ≤ 1 := by cases m <;> decide
  unfold cutI dPutV
  generalize bitI m = mm at hm ⊢
  show _ / 2097152 % 262144 = _
  omega
theorem dcut_d {a b c d e f : Int} {m : Bool} (h : dOk a b c d e f = true) : cutI (dPutV a b c d m e f) 39 9 = d := by
  have h := dOk_true.1 h
  have hm : 0 ≤ bitI m ∧ bitI m ≤ 1 := by cases m <;> decide
  unfold cutI dPutV
  generalize bitI m = mm at hm ⊢
  show _ / 549755813888 % 512 = _
  omega
theorem dcut_e {a b c d e f : Int} {m : Bool} (h : dOk a b c d e f = true) : cutI (dPutV a b c d m e f) 49 3 = e := by
  have h := dOk_true.1 h
  have hm : 0 ≤ bitI m ∧ bitI m ≤ 1 := by cases m <;> decide
  unfold cutI dPutV
  generalize bitI m = mm at hm ⊢
  show _ / 562949953421312 % 8 = _
  omega
theorem dcut_f {a b c d e f : Int} {m : Bool} (h : dOk a b c d e f = true) : cutI (dPutV a b c d m e f) 52 10 = f := by
  have h := dOk_true.1 h
  have hm : 0 ≤ bitI m ∧ bitI m ≤ 1 := by cases m <;> decide
  unfold cutI dPutV
  generalize bitI m = mm at hm ⊢
  show _ / 4503599627370496 % 1024 = _
  omega
theorem dcut_m {a b c d e f : Int} {m : Bool} (h : dOk a b c d e f = true) : cutI (dPutV a b c d m e f) 48 1 = bitI m := by
  have h := dOk_true.1 h
  have hm : 0 ≤ bitI m ∧ bitI m ≤ 1 := by cases m <;> decide
  unfold cutI dPutV
  generalize bitI m = mm at hm ⊢
  show _ / 281474976710656 % 2 = _
  omega
theorem dPutV_in {a b c d e f : Int} {m : Bool} (h : dOk a b c d e f = true) : 0 ≤ dPutV a b c d m e f ∧ dPutV a b c d m e f ≤ 18446744073709551615 := by
  have h := dOk_true.1 h
  have hm : 0 ≤ bitI m ∧ bitI m ≤ 1 := by cases m <;> decide
  unfold dPutV
  generalize bitI m = mm at hm ⊢
  omega
theorem peek_putI {xs : List Int} {a b x : Int} : peek (putI xs a x) b = if a = b ∧ 0 ≤ a ∧ a < xs.length then x else peek xs b := by
  unfold putI
  split
  · rename_i h
    unfold peek
    simp only [List.length_set]
    by_cases hb : 0 ≤ b ∧ b < xs.length
    · rw [if_pos hb, if_pos hb]
      have hlt : b.toNat < xs.length := by omega
      rw [List.getD_eq_getElem?_getD, List.getElem?_set, List.getD_eq_getElem?_getD]
      by_cases hab : a = b
      · subst hab
        simp [hlt, h]
      · rw [if_neg (by omega), if_neg (by omega)]
    · rw [if_neg hb, if_neg hb, if_neg (by omega)]
  · rename_i h
    rw [if_neg (by omega)]
theorem peek_putI_eq {xs : List Int} {a x : Int} (h : 0 ≤ a ∧ a < xs.length) : peek (putI xs a x) a = x := by rw [peek_putI, if_pos ⟨rfl, h⟩]
theorem peek_putI_ne {xs : List Int} {a b x : Int} (h : a ≠ b) : peek (putI xs a x) b = peek xs b := by rw [peek_putI, if_neg (fun c => h c.1)]

theorem xsy_sum (t n pop gave u sh kd ky att found word : Int) (s : MS) (K : AVal → Heap Ob → Prop) (ht : 0 ≤ t ∧ t ≤ 100000) (hn : 0 ≤ n ∧ n ≤ 100000) (hu : 0 ≤ u ∧ u ≤ 100000) (hc : 0 ≤ s.c ∧ s.c ≤ 1000000) (hs : ¬ (2 ≤ cutI (peek s.xs (2 * n + 5 + 2 * t + 3 * u + 2)) 49 3 ∧ cutI (peek s.xs (2 * n + 5 + 2 * t + 3 * u + 2)) 49 3 ≤ 4)) (hK : K (.bool true) (xH t n ⟨pop, gave, u, sh, kd, ky, false, att, 0, peek s.xs (2 * n + 5 + 2 * t + 3 * u + 2), word⟩ (s.loadd (2 * n + 5 + 2 * t + 3 * u + 2)))) : (xstO t n ⟨pop, gave, u, sh, kd, ky, false, att, 0, found, word⟩ s).run K := by
  unfold xstO
  have h2 : ∀ v : Int, 2 ≤ v → v ≤ 4 → ieq (cutI (peek s.xs (2 * n + 5 + 2 * t + 3 * u + 2)) 49 3) v = false := by
    intro v a b
    rw [ieq_eq]
    cases e : (cutI (peek s.xs (2 * n + 5 + 2 * t + 3 * u + 2)) 49 3 == v)
    · rfl
    · have e := eq_of_beq e
      omega
  simp only [Out.run, ieq_self, cond_true, cond_false, h2 2 (by decide) (by decide), h2 3 (by decide) (by decide), h2 4 (by decide) (by decide)]
  repeat first
    | exact hK
    | refine ⟨by first | trivial | omega | exact ⟨by omega, trivial⟩ | exact ⟨⟨trivial, by omega⟩, trivial⟩ | exact ⟨⟨rfl, by omega⟩, trivial⟩, ?_⟩
def xsyS : Spec Ob := fun args h => match args, h with
  | [.ptr 0 0, .ptr 1 0], [some (.cells [.int .i64 t, .int .i64 n, .int .i64 pop, .int .i64 gave, .int .i64 u, .int .i64 sh, .int .i64 kd, .int .i64 ky, .bool only, .int .i64 att, .int .i64 at', .int .u64 found, .int .u64 word]), e1, e2] => (match memL 2 [e1, e2] with
    | some (l, s) => some (.pre (l = s.xs.length ∧ only = false ∧ at' = 0 ∧ (0 ≤ t ∧ t ≤ 100000) ∧ (0 ≤ n ∧ n ≤ 100000) ∧ (0 ≤ u ∧ u ≤ 100000) ∧ (0 ≤ s.c ∧ s.c ≤ 1000000) ∧ ¬ (2 ≤ cutI (peek s.xs (2 * n + 5 + 2 * t + 3 * u + 2)) 49 3 ∧ cutI (peek s.xs (2 * n + 5 + 2 * t + 3 * u + 2)) 49 3 ≤ 4)) (.ret (.bool true) (xH t n ⟨pop, gave, u, sh, kd, ky, only, att, at', peek s.xs (2 * n + 5 + 2 * t + 3 * u + 2), word⟩ (s.loadd (2 * n + 5 + 2 * t + 3 * u + 2)))))
    | none => none)
  | _, _ => none
theorem xsy_ok : Spec.ok (obI tbl) Try.prog 51 xsyS := by
  intro args h o ho K hK
  unfold xsyS at ho
  split at ho
  case h_2 => cases ho
  split at ho
  case h_2 => cases ho
  rename_i hm
  simp only [Option.some.injEq] at ho; subst ho
  obtain ⟨⟨hl, rfl, rfl, ht, hn, hu, hc, hs⟩, hK⟩ := hK
  have hh := memL_eq hm hl
  simp only [List.cons.injEq, and_true] at hh
  obtain ⟨rfl, rfl⟩ := hh
  exact xst_sum _ _ _ _ K (xsy_sum _ _ _ _ _ _ _ _ _ _ _ _ K ht hn hu hc hs hK)
noncomputable def EX7 := ((EX3.addS 5 awake16S awake16_ok).addS 27 clone64S clone64_ok).addS 28 eq64S eq64_ok
noncomputable def EX8 := EX7.addS 51 xsyS xsy_ok
end Go.Sh

/- A round that is executed: each step by what it meets. -/
namespace Go.Sh
open Go Go.Proofs
variable [Con]
/-- what each step asks of who steps -/
structure xGood (t n : Int) (x : XE) (s : MS) : Prop where
  ht : 0 ≤ t ∧ t ≤ 100000
  hn : 0 ≤ n ∧ n ≤ 100000
  hu : 0 ≤ x.u ∧ x.u ≤ 100000
  hc : 0 ≤ s.c ∧ s.c ≤ 1000000
  ho : x.only = false
def xDA (t n : Int) (x : XE) : Int := 2 * n + 5 + 2 * t + 3 * x.u + 2
theorem ieq_no {a b : Int} (h : a ≠ b) : ieq a b = false := by
  rw [ieq_eq]
  cases e : (a == b)
  · rfl
  · exact absurd (eq_of_beq e) h
theorem ieq_ok {a b : Int} (h : a = b) : ieq a b = true := by rw [h, ieq_self]
theorem xst_load (t n : Int) (x : XE) (s : MS) (K : AVal → Heap Ob → Prop) (v w : Int) (g : xGood t n x s) (ha : x.at' = 0) (hv : cutI (peek s.xs (xDA t n x)) 49 3 = v) (hw : (v = 2 ∧ w = 1) ∨ (v = 3 ∧ w = 5) ∨ (v = 4 ∧ w = 8)) (hK : K (.bool false) (xH t n { x with at' := w, found := peek s.xs (xDA t n x) } (s.loadd (xDA t n x)))) : (xstO t n x s).run K := by
  unfold xDA at hv hK
  obtain ⟨pop, gave, u, sh, kd, ky, only, att, at', found, word⟩ := x
  obtain ⟨ht, hn, hu, hc, ho⟩ := g
  dsimp only at ha hv ho hK hu
  subst ha ho
  unfold xstO
  have h0 : ∀ a : Int, ieq a a = true := ieq_self
  rcases hw with ⟨h, rfl⟩ | ⟨h, rfl⟩ | ⟨h, rfl⟩
  all_goals
    subst h
    simp only [Out.run, ieq_self, cond_true, cond_false, hv, ieq_no (show (3 : Int) ≠ 2 by decide), ieq_no (show (4 : Int) ≠ 2 by decide), ieq_no (show (4 : Int) ≠ 3 by decide)]
    repeat first
      | exact hK
      | refine ⟨by first | trivial | omega | exact ⟨by omega, trivial⟩ | exact ⟨⟨trivial, by omega⟩, trivial⟩ | exact ⟨⟨rfl, by omega⟩, trivial⟩, ?_⟩
/-- what the word tells: 0 nobody's, 1 its own, 2 another one's -/
def lookV (u f w : Int) : Int := bif ieq (cutI w 25 18) (cutI f 21 18) then (bif ieq (cutI w 20 5) 0 then 0 else bif ieq (cutI w 20 5) (W (u + 1)) then 1 else 2) else 2
theorem xst_look1 (t n : Int) (x : XE) (s : MS) (K : AVal → Heap Ob → Prop) (g : xGood t n x s) (ha : x.at' = 1) (hK : K (.bool false) (xH t n { x with at' := lookV x.u x.found (peek s.xs (cutI x.found 12 9)) + 2, word := peek s.xs (cutI x.found 12 9) } (s.loadd (cutI x.found 12 9)))) : (xstO t n x s).run K := by
  obtain ⟨pop, gave, u, sh, kd, ky, only, att, at', found, word⟩ := x
  obtain ⟨ht, hn, hu, hc, ho⟩ := g
  dsimp only at ha ho hK hu
  subst ha ho
  unfold xstO
  simp only [Out.run, ieq_self, cond_true, cond_false, ieq_no (show (1 : Int) ≠ 0 by decide)]
  unfold lookV at hK
  generalize ieq (cutI (peek s.xs (cutI found 12 9)) 25 18) (cutI found 21 18) = b1 at hK ⊢
  generalize ieq (cutI (peek s.xs (cutI found 12 9)) 20 5) 0 = b2 at hK ⊢
  generalize ieq (cutI (peek s.xs (cutI found 12 9)) 20 5) (W (u + 1)) = b3 at hK ⊢
  cases b1 <;> cases b2 <;> cases b3
  all_goals
    simp only [cond_true, cond_false] at hK ⊢
    repeat first
      | exact hK
      | refine ⟨by first | trivial | omega | exact ⟨by omega, trivial⟩ | exact ⟨⟨trivial, by omega⟩, trivial⟩ | exact ⟨trivial, by omega⟩ | exact ⟨⟨rfl, by omega⟩, trivial⟩, ?_⟩
theorem xst_look5 (t n : Int) (x : XE) (s : MS) (K : AVal → Heap Ob → Prop) (g : xGood t n x s) (ha : x.at' = 5) (hK : K (.bool false) (xH t n { x with at' := bif ieq (lookV x.u x.found (peek s.xs (cutI x.found 12 9))) 1 then 6 else 7, word := peek s.xs (cutI x.found 12 9) } (s.loadd (cutI x.found 12 9)))) : (xstO t n x s).run K := by
  obtain ⟨pop, gave, u, sh, kd, ky, only, att, at', found, word⟩ := x
  obtain ⟨ht, hn, hu, hc, ho⟩ := g
  dsimp only at ha ho hK hu
  subst ha ho
  unfold xstO
  simp only [Out.run, ieq_self, cond_true, cond_false, ieq_no (show (5 : Int) ≠ 0 by decide), ieq_no (show (5 : Int) ≠ 1 by decide), ieq_no (show (5 : Int) ≠ 2 by decide), ieq_no (show (5 : Int) ≠ 3 by decide), ieq_no (show (5 : Int) ≠ 4 by decide)]
  unfold lookV at hK
  generalize ieq (cutI (peek s.xs (cutI found 12 9)) 25 18) (cutI found 21 18) = b1 at hK ⊢
  generalize ieq (cutI (peek s.xs (cutI found 12 9)) 20 5) 0 = b2 at hK ⊢
  generalize ieq (cutI (peek s.xs (cutI found 12 9)) 20 5) (W (u + 1)) = b3 at hK ⊢
  cases b1 <;> cases b2 <;> cases b3
  all_goals
    simp only [cond_true, cond_false, ieq_self, ieq_no (show (0 : Int) ≠ 1 by decide), ieq_no (show (2 : Int) ≠ 1 by decide)] at hK ⊢
    repeat first
      | exact hK
      | refine ⟨by first | trivial | omega | exact ⟨by omega, trivial⟩ | exact ⟨⟨trivial, by omega⟩, trivial⟩ | exact ⟨trivial, by omega⟩ | exact ⟨⟨rfl, by omega⟩, trivial⟩, ?_⟩
theorem fit_in {x w : Int} (h : 0 ≤ x ∧ x < 2 ^ w.toNat) : fitI x w = true := by
  unfold fitI
  rw [ile_eq, ilt_eq, decide_eq_true h.1, decide_eq_true h.2]; rfl
theorem fit_cut {x a w : Int} : fitI (cutI x a w) w = true := fit_in cutI_in
/-- memory behind a Cas that was done -/
def MS.swapd (s : MS) (a x : Int) : MS := ⟨s.t, s.n, putI s.xs a x, s.c + 1, 3, a, peek s.xs a, x, true⟩
theorem casB_in {xs : List Int} {a x : Int} (h : casB xs a x = true) : inB xs a = true := by
  unfold casB at h
  cases e : inB xs a
  · rw [e] at h; cases h
  · rfl
theorem xst_claims (t n : Int) (x : XE) (s : MS) (K : AVal → Heap Ob → Prop) (g : xGood t n x s) (ha : x.at' = 2) (hu30 : x.u ≤ 30) (hcas : casB s.xs (cutI x.found 12 9) x.word = true) (hK : K (.bool true) (xH t n { x with pop := bif popsB x.sh x.kd then cutI x.word 10 9 else x.pop } (s.swapd (cutI x.found 12 9) (putV (cutI x.word 0 10) (cutI x.found 39 9) (ieq (cutI x.found 48 1) 1) (x.u + 1) (cutI x.word 25 18))))) : (xstO t n x s).run K := by
  obtain ⟨pop, gave, u, sh, kd, ky, only, att, at', found, word⟩ := x
  obtain ⟨ht, hn, hu, hc, ho⟩ := g
  dsimp only at ha ho hK hu hcas hu30
  subst ha ho
  unfold xstO
  have hfu : fitI (u + 1) 5 = true := fit_in (show 0 ≤ u + 1 ∧ u + 1 < 32 by omega)
  simp only [Out.run, ieq_self, cond_true, cond_false, hcas, casB_in hcas, hfu, fit_cut, putI_length, ieq_no (show (2 : Int) ≠ 0 by decide), ieq_no (show (2 : Int) ≠ 1 by decide)]
  unfold MS.swapd at hK
  dsimp only [xH, memC, memX] at hK
  simp only [putI_length] at hK
  cases hp : popsB sh kd
  all_goals
    simp only [hp, cond_true, cond_false] at hK ⊢
    repeat first
      | exact hK
      | refine ⟨by first | trivial | omega | exact ⟨trivial, trivial, trivial, ⟨⟨trivial, by omega⟩, trivial⟩, trivial⟩ | exact ⟨by omega, trivial⟩ | exact ⟨⟨trivial, by omega⟩, trivial⟩ | exact ⟨trivial, by omega⟩ | exact ⟨⟨rfl, by omega⟩, trivial⟩, ?_⟩
theorem dok_cut {f e : Int} (h : 0 ≤ e ∧ e < 8) : dOk (cutI f 0 12) (cutI f 12 9) (cutI f 21 18) (cutI f 39 9) e (cutI f 52 10) = true :=
  dOk_true.2 ⟨cutI_in, cutI_in, cutI_in, cutI_in, h, cutI_in⟩
theorem xst_wins (t n : Int) (x : XE) (s : MS) (K : AVal → Heap Ob → Prop) (g : xGood t n x s) (ha : x.at' = 3) (hcas : casB s.xs (xDA t n x) x.found = true) (hK : K (.bool true) (xH t n x (s.swapd (xDA t n x) (dPutV (cutI x.found 0 12) (cutI x.found 12 9) (cutI x.found 21 18) (cutI x.found 39 9) (ieq (cutI x.found 48 1) 1) 3 (cutI x.found 52 10))))) : (xstO t n x s).run K := by
  unfold xDA at hcas hK
  obtain ⟨pop, gave, u, sh, kd, ky, only, att, at', found, word⟩ := x
  obtain ⟨ht, hn, hu, hc, ho⟩ := g
  dsimp only at ha ho hK hu hcas
  subst ha ho
  unfold xstO
  simp only [Out.run, ieq_self, cond_true, cond_false, hcas, casB_in hcas, dok_cut (show (0 : Int) ≤ 3 ∧ (3 : Int) < 8 by decide), putI_length, ieq_no (show (3 : Int) ≠ 0 by decide), ieq_no (show (3 : Int) ≠ 1 by decide), ieq_no (show (3 : Int) ≠ 2 by decide)]
  unfold MS.swapd at hK
  dsimp only [xH, memC, memX] at hK
  simp only [putI_length] at hK
  first
  | (repeat first
     | exact hK
     | refine ⟨by first | trivial | omega | exact ⟨trivial, trivial, trivial, ⟨⟨trivial, by omega⟩, trivial⟩, trivial⟩ | exact ⟨by omega, trivial⟩ | exact ⟨⟨trivial, by omega⟩, trivial⟩ | exact ⟨trivial, by omega⟩ | exact ⟨⟨rfl, by omega⟩, trivial⟩, ?_⟩
     done)
  | fail
theorem xst_loses (t n : Int) (x : XE) (s : MS) (K : AVal → Heap Ob → Prop) (g : xGood t n x s) (ha : x.at' = 4) (hcas : casB s.xs (xDA t n x) x.found = true) (hK : K (.bool true) (xH t n x (s.swapd (xDA t n x) (dPutV (cutI x.found 0 12) (cutI x.found 12 9) (cutI x.found 21 18) (cutI x.found 39 9) (ieq (cutI x.found 48 1) 1) 4 (cutI x.found 52 10))))) : (xstO t n x s).run K := by
  unfold xDA at hcas hK
  obtain ⟨pop, gave, u, sh, kd, ky, only, att, at', found, word⟩ := x
  obtain ⟨ht, hn, hu, hc, ho⟩ := g
  dsimp only at ha ho hK hu hcas
  subst ha ho
  unfold xstO
  simp only [Out.run, ieq_self, cond_true, cond_false, hcas, casB_in hcas, dok_cut (show (0 : Int) ≤ 4 ∧ (4 : Int) < 8 by decide), putI_length, ieq_no (show (4 : Int) ≠ 0 by decide), ieq_no (show (4 : Int) ≠ 1 by decide), ieq_no (show (4 : Int) ≠ 2 by decide), ieq_no (show (4 : Int) ≠ 3 by decide)]
  unfold MS.swapd at hK
  dsimp only [xH, memC, memX] at hK
  simp only [putI_length] at hK
  first
  | (repeat first
     | exact hK
     | refine ⟨by first | trivial | omega | exact ⟨trivial, trivial, trivial, ⟨⟨trivial, by omega⟩, trivial⟩, trivial⟩ | exact ⟨by omega, trivial⟩ | exact ⟨⟨trivial, by omega⟩, trivial⟩ | exact ⟨trivial, by omega⟩ | exact ⟨⟨rfl, by omega⟩, trivial⟩, ?_⟩
     done)
  | fail
theorem cutI_le12 {f : Int} : 0 ≤ cutI f 0 12 ∧ cutI f 0 12 ≤ 1000000 := by
  have h : 0 ≤ cutI f 0 12 ∧ cutI f 0 12 < 4096 := cutI_in
  omega
theorem dok_end {f : Int} : dOk (cutI f 0 12) 0 0 0 5 (cutI f 52 10) = true :=
  dOk_true.2 ⟨cutI_in, by decide, by decide, by decide, by decide, cutI_in⟩
theorem att_in {f : Int} : 0 ≤ attI (cutI f 0 12) ∧ attI (cutI f 0 12) < 4096 := by
  have h : 0 ≤ cutI f 0 12 ∧ cutI f 0 12 < 4096 := cutI_in
  unfold attI
  omega
theorem dok_next {f : Int} : dOk (attI (cutI f 0 12)) 0 0 0 1 0 = true :=
  dOk_true.2 ⟨att_in, by decide, by decide, by decide, by decide, by decide⟩
theorem free_ver {w : Int} : W ↑(BitVec.ofInt IntKind.i64.bits (W (cutI w 25 18 + 1)) &&& BitVec.ofInt IntKind.i64.bits 262143).toNat = (cutI w 25 18 + 1) % 262144 := by
  have h : 0 ≤ cutI w 25 18 ∧ cutI w 25 18 < 262144 := cutI_in
  generalize cutI w 25 18 = v at h ⊢
  rw [W_id (x := v + 1) (by omega), show IntKind.bits .i64 = 64 from rfl, show (262143 : Int) = 2 ^ 18 - 1 by decide, and_mask (n := 64) (w := 18) (v + 1) (by decide)]
  exact W_id (by omega)
theorem fit_ver {w : Int} : fitI ((cutI w 25 18 + 1) % 262144) 18 = true := fit_in (show 0 ≤ (cutI w 25 18 + 1) % 262144 ∧ (cutI w 25 18 + 1) % 262144 < 262144 by omega)
theorem fit_05 : fitI 0 5 = true := fit_in (by decide)
theorem xst_ends (t n : Int) (x : XE) (s : MS) (K : AVal → Heap Ob → Prop) (g : xGood t n x s) (ha : x.at' = 7) (hcas : casB s.xs (xDA t n x) x.found = true) (hK : K (.bool true) (xH t n x (s.swapd (xDA t n x) (dPutV (cutI x.found 0 12) 0 0 0 true 5 (cutI x.found 52 10))))) : (xstO t n x s).run K := by
  unfold xDA at hcas hK
  obtain ⟨pop, gave, u, sh, kd, ky, only, att, at', found, word⟩ := x
  obtain ⟨ht, hn, hu, hc, ho⟩ := g
  dsimp only at ha ho hK hu hcas
  subst ha ho
  unfold xstO
  simp only [Out.run, ieq_self, cond_true, cond_false, hcas, casB_in hcas, dok_end, putI_length, ieq_no (show (7 : Int) ≠ 0 by decide), ieq_no (show (7 : Int) ≠ 1 by decide), ieq_no (show (7 : Int) ≠ 2 by decide), ieq_no (show (7 : Int) ≠ 3 by decide), ieq_no (show (7 : Int) ≠ 4 by decide), ieq_no (show (7 : Int) ≠ 5 by decide), ieq_no (show (7 : Int) ≠ 6 by decide)]
  unfold MS.swapd at hK
  dsimp only [xH, memC, memX] at hK
  simp only [putI_length] at hK
  first
  | (repeat first
     | exact hK
     | refine ⟨by first | trivial | omega | exact cutI_le12 | exact ⟨trivial, trivial, ⟨⟨by omega, by omega, by omega⟩, trivial⟩, ⟨⟨trivial, by omega⟩, trivial⟩, trivial⟩ | exact ⟨trivial, trivial, trivial, ⟨⟨trivial, by omega⟩, trivial⟩, trivial⟩ | exact ⟨by omega, trivial⟩ | exact ⟨⟨trivial, by omega⟩, trivial⟩ | exact ⟨trivial, by omega⟩ | exact ⟨⟨by omega, by omega, by omega⟩, trivial⟩ | exact ⟨⟨rfl, by omega⟩, trivial⟩, ?_⟩
     done)
  | fail
theorem xst_frees (t n : Int) (x : XE) (s : MS) (K : AVal → Heap Ob → Prop) (g : xGood t n x s) (ha : x.at' = 6) (hcas : casB s.xs (cutI x.found 12 9) x.word = true) (hK : K (.bool false) (xH t n { x with at' := 7 } (s.swapd (cutI x.found 12 9) (putV (cutI x.word 0 10) (cutI x.word 10 9) (ieq (cutI x.word 19 1) 1) 0 ((cutI x.word 25 18 + 1) % 262144))))) : (xstO t n x s).run K := by
  obtain ⟨pop, gave, u, sh, kd, ky, only, att, at', found, word⟩ := x
  obtain ⟨ht, hn, hu, hc, ho⟩ := g
  dsimp only at ha ho hK hu hcas
  subst ha ho
  unfold xstO
  simp only [Out.run, ieq_self, cond_true, cond_false, hcas, casB_in hcas, fit_cut, free_ver, fit_ver, fit_05, putI_length, ieq_no (show (6 : Int) ≠ 0 by decide), ieq_no (show (6 : Int) ≠ 1 by decide), ieq_no (show (6 : Int) ≠ 2 by decide), ieq_no (show (6 : Int) ≠ 3 by decide), ieq_no (show (6 : Int) ≠ 4 by decide), ieq_no (show (6 : Int) ≠ 5 by decide)]
  unfold MS.swapd at hK
  dsimp only [xH, memC, memX] at hK
  simp only [putI_length] at hK
  first
  | (repeat first
     | exact hK
     | refine ⟨by first | trivial | omega | exact cutI_le12 | exact ⟨trivial, trivial, ⟨⟨by omega, by omega, by omega⟩, trivial⟩, ⟨⟨trivial, by omega⟩, trivial⟩, trivial⟩ | exact ⟨trivial, trivial, trivial, ⟨⟨trivial, by omega⟩, trivial⟩, trivial⟩ | exact ⟨by omega, trivial⟩ | exact ⟨⟨trivial, by omega⟩, trivial⟩ | exact ⟨trivial, by omega⟩ | exact ⟨⟨by omega, by omega, by omega⟩, trivial⟩ | exact ⟨⟨rfl, by omega⟩, trivial⟩, ?_⟩
     done)
  | fail
theorem xst_nexts (t n : Int) (x : XE) (s : MS) (K : AVal → Heap Ob → Prop) (g : xGood t n x s) (ha : x.at' = 8) (hcas : casB s.xs (xDA t n x) x.found = true) (hK : K (.bool (bif linksB x.kd then !nodeB n (cutI x.found 39 9) else true)) (xH t n { x with at' := 9 } (s.swapd (xDA t n x) (dPutV (attI (cutI x.found 0 12)) 0 0 0 false 1 0)))) : (xstO t n x s).run K := by
  unfold xDA at hcas hK
  obtain ⟨pop, gave, u, sh, kd, ky, only, att, at', found, word⟩ := x
  obtain ⟨ht, hn, hu, hc, ho⟩ := g
  dsimp only at ha ho hK hu hcas
  subst ha ho
  unfold xstO
  simp only [Out.run, ieq_self, cond_true, cond_false, hcas, casB_in hcas, dok_next, Bool.not_true, putI_length, ieq_no (show (8 : Int) ≠ 0 by decide), ieq_no (show (8 : Int) ≠ 1 by decide), ieq_no (show (8 : Int) ≠ 2 by decide), ieq_no (show (8 : Int) ≠ 3 by decide), ieq_no (show (8 : Int) ≠ 4 by decide), ieq_no (show (8 : Int) ≠ 5 by decide), ieq_no (show (8 : Int) ≠ 6 by decide), ieq_no (show (8 : Int) ≠ 7 by decide)]
  unfold MS.swapd at hK
  dsimp only [xH, memC, memX] at hK
  simp only [putI_length] at hK
  cases hl : linksB kd
  all_goals
    simp only [hl, cond_true, cond_false, Bool.not_true, Bool.not_false] at hK ⊢
  all_goals
    first
    | (repeat first
       | exact hK
       | refine ⟨by first | trivial | omega | exact cutI_le12 | exact ⟨trivial, trivial, ⟨⟨by omega, by omega, by omega⟩, trivial⟩, ⟨⟨trivial, by omega⟩, trivial⟩, trivial⟩ | exact ⟨trivial, trivial, trivial, ⟨⟨trivial, by omega⟩, trivial⟩, trivial⟩ | exact ⟨by omega, trivial⟩ | exact ⟨⟨trivial, by omega⟩, trivial⟩ | exact ⟨trivial, by omega⟩ | exact ⟨⟨by omega, by omega, by omega⟩, trivial⟩ | exact ⟨⟨rfl, by omega⟩, trivial⟩, ?_⟩
       done)
    | fail
theorem xst_gives (t n : Int) (x : XE) (s : MS) (K : AVal → Heap Ob → Prop) (g : xGood t n x s) (ha : x.at' = 9) (hK : K (.bool true) (xH t n { x with gave := cutI x.found 39 9 } (s.added (n + 4 + cutI x.found 39 9) 1))) : (xstO t n x s).run K := by
  have hcas := hK
  have h39 : 0 ≤ cutI x.found 39 9 ∧ cutI x.found 39 9 < 512 := cutI_in
  obtain ⟨pop, gave, u, sh, kd, ky, only, att, at', found, word⟩ := x
  obtain ⟨ht, hn, hu, hc, ho⟩ := g
  dsimp only at ha ho hK hu hcas h39
  subst ha ho
  unfold xstO
  simp only [Out.run, ieq_self, cond_true, cond_false, putI_length, ieq_no (show (9 : Int) ≠ 0 by decide), ieq_no (show (9 : Int) ≠ 1 by decide), ieq_no (show (9 : Int) ≠ 2 by decide), ieq_no (show (9 : Int) ≠ 3 by decide), ieq_no (show (9 : Int) ≠ 4 by decide), ieq_no (show (9 : Int) ≠ 5 by decide), ieq_no (show (9 : Int) ≠ 6 by decide), ieq_no (show (9 : Int) ≠ 7 by decide), ieq_no (show (9 : Int) ≠ 8 by decide)]
  dsimp only [xH, memC, memX, MS.added, MS.did] at hK
  simp only [putI_length] at hK
  first
  | (repeat first
     | exact hK
     | refine ⟨by first | trivial | omega | exact cutI_le12 | exact ⟨trivial, trivial, ⟨⟨by omega, by omega, by omega⟩, trivial⟩, ⟨⟨trivial, by omega⟩, trivial⟩, trivial⟩ | exact ⟨trivial, trivial, trivial, ⟨⟨trivial, by omega⟩, trivial⟩, trivial⟩ | exact ⟨by omega, trivial⟩ | exact ⟨⟨trivial, by omega⟩, trivial⟩ | exact ⟨trivial, by omega⟩ | exact ⟨⟨by omega, by omega, by omega⟩, trivial⟩ | exact ⟨⟨rfl, by omega⟩, trivial⟩, ?_⟩
     done)
  | fail
end Go.Sh

/- A round that is executed: each kind of round. -/
namespace Go.Sh
open Go Go.Proofs
variable [Con]
def xkAO (t n : Int) (x : XE) (s : MS) (l : Nat) : Out Ob := cond (Nat.beq x.at'.toNat 0) (.pre (l = s.xs.length ∧ xGood t n x s ∧ x.at' = 0 ∧ cutI (peek s.xs (xDA t n x)) 49 3 = 2) (.ret (.bool false) (xH t n { x with at' := 1, found := peek s.xs (xDA t n x) } (s.loadd (xDA t n x))))) (cond (Nat.beq x.at'.toNat 1) (.pre (l = s.xs.length ∧ xGood t n x s ∧ x.at' = 1 ∧ lookV x.u x.found (peek s.xs (cutI x.found 12 9)) = 0) (.ret (.bool false) (xH t n { x with at' := 2, word := peek s.xs (cutI x.found 12 9) } (s.loadd (cutI x.found 12 9))))) (cond (Nat.beq x.at'.toNat 2) (.pre (l = s.xs.length ∧ xGood t n x s ∧ x.at' = 2 ∧ (x.u ≤ 30 ∧ casB s.xs (cutI x.found 12 9) x.word = true)) (.ret (.bool true) (xH t n { x with pop := bif popsB x.sh x.kd then cutI x.word 10 9 else x.pop } (s.swapd (cutI x.found 12 9) (putV (cutI x.word 0 10) (cutI x.found 39 9) (ieq (cutI x.found 48 1) 1) (x.u + 1) (cutI x.word 25 18)))))) (.pre False (.ret (.bool false) []))))
theorem xkA_sum (t n : Int) (x : XE) (s : MS) (l : Nat) (K : AVal → Heap Ob → Prop) (h : (xkAO t n x s l).run K) : l = s.xs.length ∧ (xstO t n x s).run K := by
  unfold xkAO at h
  cases c0 : Nat.beq x.at'.toNat 0
  case true =>
    simp only [c0, cond_true] at h
    obtain ⟨⟨hl, hg, ha, hp⟩, hK⟩ := h
    exact ⟨hl, xst_load t n x s K 2 1 hg ha hp (by decide) hK⟩
  simp only [c0, cond_false] at h
  cases c1 : Nat.beq x.at'.toNat 1
  case true =>
    simp only [c1, cond_true] at h
    obtain ⟨⟨hl, hg, ha, hp⟩, hK⟩ := h
    exact ⟨hl, xst_look1 t n x s K hg ha (by rw [hp]; exact hK)⟩
  simp only [c1, cond_false] at h
  cases c2 : Nat.beq x.at'.toNat 2
  case true =>
    simp only [c2, cond_true] at h
    obtain ⟨⟨hl, hg, ha, hp⟩, hK⟩ := h
    exact ⟨hl, xst_claims t n x s K hg ha hp.1 hp.2 hK⟩
  simp only [c2, cond_false] at h
  exact h.1.elim
def xkAS : Spec Ob := fun args h => match args, h with
  | [.ptr 0 0, .ptr 1 0], [some (.cells [.int .i64 t, .int .i64 n, .int .i64 pop, .int .i64 gave, .int .i64 u, .int .i64 sh, .int .i64 kd, .int .i64 ky, .bool only, .int .i64 att, .int .i64 at', .int .u64 found, .int .u64 word]), e1, e2] => (match memL 2 [e1, e2] with
    | some (l, s) => some (xkAO t n ⟨pop, gave, u, sh, kd, ky, only, att, at', found, word⟩ s l)
    | none => none)
  | _, _ => none
theorem xkA_ok : Spec.ok (obI tbl) Try.prog 51 xkAS := by
  intro args h o ho K hK
  unfold xkAS at ho
  split at ho
  case h_2 => cases ho
  split at ho
  case h_2 => cases ho
  rename_i hm
  simp only [Option.some.injEq] at ho; subst ho
  obtain ⟨hl, hK⟩ := xkA_sum _ _ _ _ _ K hK
  have hh := memL_eq hm hl
  simp only [List.cons.injEq, and_true] at hh
  obtain ⟨rfl, rfl⟩ := hh
  exact xst_sum _ _ _ _ K hK
noncomputable def EKA := EX3.addS 51 xkAS xkA_ok
def xkBO (t n : Int) (x : XE) (s : MS) (l : Nat) : Out Ob := cond (Nat.beq x.at'.toNat 0) (.pre (l = s.xs.length ∧ xGood t n x s ∧ x.at' = 0 ∧ cutI (peek s.xs (xDA t n x)) 49 3 = 2) (.ret (.bool false) (xH t n { x with at' := 1, found := peek s.xs (xDA t n x) } (s.loadd (xDA t n x))))) (cond (Nat.beq x.at'.toNat 1) (.pre (l = s.xs.length ∧ xGood t n x s ∧ x.at' = 1 ∧ lookV x.u x.found (peek s.xs (cutI x.found 12 9)) = 1) (.ret (.bool false) (xH t n { x with at' := 3, word := peek s.xs (cutI x.found 12 9) } (s.loadd (cutI x.found 12 9))))) (cond (Nat.beq x.at'.toNat 3) (.pre (l = s.xs.length ∧ xGood t n x s ∧ x.at' = 3 ∧ casB s.xs (xDA t n x) x.found = true) (.ret (.bool true) (xH t n x (s.swapd (xDA t n x) (dPutV (cutI x.found 0 12) (cutI x.found 12 9) (cutI x.found 21 18) (cutI x.found 39 9) (ieq (cutI x.found 48 1) 1) 3 (cutI x.found 52 10)))))) (.pre False (.ret (.bool false) []))))
theorem xkB_sum (t n : Int) (x : XE) (s : MS) (l : Nat) (K : AVal → Heap Ob → Prop) (h : (xkBO t n x s l).run K) : l = s.xs.length ∧ (xstO t n x s).run K := by
  unfold xkBO at h
  cases c0 : Nat.beq x.at'.toNat 0
  case true =>
    simp only [c0, cond_true] at h
    obtain ⟨⟨hl, hg, ha, hp⟩, hK⟩ := h
    exact ⟨hl, xst_load t n x s K 2 1 hg ha hp (by decide) hK⟩
  simp only [c0, cond_false] at h
  cases c1 : Nat.beq x.at'.toNat 1
  case true =>
    simp only [c1, cond_true] at h
    obtain ⟨⟨hl, hg, ha, hp⟩, hK⟩ := h
    exact ⟨hl, xst_look1 t n x s K hg ha (by rw [hp]; exact hK)⟩
  simp only [c1, cond_false] at h
  cases c3 : Nat.beq x.at'.toNat 3
  case true =>
    simp only [c3, cond_true] at h
    obtain ⟨⟨hl, hg, ha, hp⟩, hK⟩ := h
    exact ⟨hl, xst_wins t n x s K hg ha hp hK⟩
  simp only [c3, cond_false] at h
  exact h.1.elim
def xkBS : Spec Ob := fun args h => match args, h with
  | [.ptr 0 0, .ptr 1 0], [some (.cells [.int .i64 t, .int .i64 n, .int .i64 pop, .int .i64 gave, .int .i64 u, .int .i64 sh, .int .i64 kd, .int .i64 ky, .bool only, .int .i64 att, .int .i64 at', .int .u64 found, .int .u64 word]), e1, e2] => (match memL 2 [e1, e2] with
    | some (l, s) => some (xkBO t n ⟨pop, gave, u, sh, kd, ky, only, att, at', found, word⟩ s l)
    | none => none)
  | _, _ => none
theorem xkB_ok : Spec.ok (obI tbl) Try.prog 51 xkBS := by
  intro args h o ho K hK
  unfold xkBS at ho
  split at ho
  case h_2 => cases ho
  split at ho
  case h_2 => cases ho
  rename_i hm
  simp only [Option.some.injEq] at ho; subst ho
  obtain ⟨hl, hK⟩ := xkB_sum _ _ _ _ _ K hK
  have hh := memL_eq hm hl
  simp only [List.cons.injEq, and_true] at hh
  obtain ⟨rfl, rfl⟩ := hh
  exact xst_sum _ _ _ _ K hK
noncomputable def EKB := EX3.addS 51 xkBS xkB_ok
def xkCO (t n : Int) (x : XE) (s : MS) (l : Nat) : Out Ob := cond (Nat.beq x.at'.toNat 0) (.pre (l = s.xs.length ∧ xGood t n x s ∧ x.at' = 0 ∧ cutI (peek s.xs (xDA t n x)) 49 3 = 3) (.ret (.bool false) (xH t n { x with at' := 5, found := peek s.xs (xDA t n x) } (s.loadd (xDA t n x))))) (cond (Nat.beq x.at'.toNat 5) (.pre (l = s.xs.length ∧ xGood t n x s ∧ x.at' = 5 ∧ lookV x.u x.found (peek s.xs (cutI x.found 12 9)) = 1) (.ret (.bool false) (xH t n { x with at' := 6, word := peek s.xs (cutI x.found 12 9) } (s.loadd (cutI x.found 12 9))))) (cond (Nat.beq x.at'.toNat 6) (.pre (l = s.xs.length ∧ xGood t n x s ∧ x.at' = 6 ∧ casB s.xs (cutI x.found 12 9) x.word = true) (.ret (.bool false) (xH t n { x with at' := 7 } (s.swapd (cutI x.found 12 9) (putV (cutI x.word 0 10) (cutI x.word 10 9) (ieq (cutI x.word 19 1) 1) 0 ((cutI x.word 25 18 + 1) % 262144)))))) (cond (Nat.beq x.at'.toNat 7) (.pre (l = s.xs.length ∧ xGood t n x s ∧ x.at' = 7 ∧ casB s.xs (xDA t n x) x.found = true) (.ret (.bool true) (xH t n x (s.swapd (xDA t n x) (dPutV (cutI x.found 0 12) 0 0 0 true 5 (cutI x.found 52 10)))))) (.pre False (.ret (.bool false) [])))))
theorem xkC_sum (t n : Int) (x : XE) (s : MS) (l : Nat) (K : AVal → Heap Ob → Prop) (h : (xkCO t n x s l).run K) : l = s.xs.length ∧ (xstO t n x s).run K := by
  unfold xkCO at h
  cases c0 : Nat.beq x.at'.toNat 0
  case true =>
    simp only [c0, cond_true] at h
    obtain ⟨⟨hl, hg, ha, hp⟩, hK⟩ := h
    exact ⟨hl, xst_load t n x s K 3 5 hg ha hp (by decide) hK⟩
  simp only [c0, cond_false] at h
  cases c5 : Nat.beq x.at'.toNat 5
  case true =>
    simp only [c5, cond_true] at h
    obtain ⟨⟨hl, hg, ha, hp⟩, hK⟩ := h
    exact ⟨hl, xst_look5 t n x s K hg ha (by rw [hp]; exact hK)⟩
  simp only [c5, cond_false] at h
  cases c6 : Nat.beq x.at'.toNat 6
  case true =>
    simp only [c6, cond_true] at h
    obtain ⟨⟨hl, hg, ha, hp⟩, hK⟩ := h
    exact ⟨hl, xst_frees t n x s K hg ha hp hK⟩
  simp only [c6, cond_false] at h
  cases c7 : Nat.beq x.at'.toNat 7
  case true =>
    simp only [c7, cond_true] at h
    obtain ⟨⟨hl, hg, ha, hp⟩, hK⟩ := h
    exact ⟨hl, xst_ends t n x s K hg ha hp hK⟩
  simp only [c7, cond_false] at h
  exact h.1.elim
def xkCS : Spec Ob := fun args h => match args, h with
  | [.ptr 0 0, .ptr 1 0], [some (.cells [.int .i64 t, .int .i64 n, .int .i64 pop, .int .i64 gave, .int .i64 u, .int .i64 sh, .int .i64 kd, .int .i64 ky, .bool only, .int .i64 att, .int .i64 at', .int .u64 found, .int .u64 word]), e1, e2] => (match memL 2 [e1, e2] with
    | some (l, s) => some (xkCO t n ⟨pop, gave, u, sh, kd, ky, only, att, at', found, word⟩ s l)
    | none => none)
  | _, _ => none
theorem xkC_ok : Spec.ok (obI tbl) Try.prog 51 xkCS := by
  intro args h o ho K hK
  unfold xkCS at ho
  split at ho
  case h_2 => cases ho
  split at ho
  case h_2 => cases ho
  rename_i hm
  simp only [Option.some.injEq] at ho; subst ho
  obtain ⟨hl, hK⟩ := xkC_sum _ _ _ _ _ K hK
  have hh := memL_eq hm hl
  simp only [List.cons.injEq, and_true] at hh
  obtain ⟨rfl, rfl⟩ := hh
  exact xst_sum _ _ _ _ K hK
noncomputable def EKC := EX3.addS 51 xkCS xkC_ok
def xkDO (t n : Int) (x : XE) (s : MS) (l : Nat) : Out Ob := cond (Nat.beq x.at'.toNat 0) (.pre (l = s.xs.length ∧ xGood t n x s ∧ x.at' = 0 ∧ cutI (peek s.xs (xDA t n x)) 49 3 = 2) (.ret (.bool false) (xH t n { x with at' := 1, found := peek s.xs (xDA t n x) } (s.loadd (xDA t n x))))) (cond (Nat.beq x.at'.toNat 1) (.pre (l = s.xs.length ∧ xGood t n x s ∧ x.at' = 1 ∧ lookV x.u x.found (peek s.xs (cutI x.found 12 9)) = 2) (.ret (.bool false) (xH t n { x with at' := 4, word := peek s.xs (cutI x.found 12 9) } (s.loadd (cutI x.found 12 9))))) (cond (Nat.beq x.at'.toNat 4) (.pre (l = s.xs.length ∧ xGood t n x s ∧ x.at' = 4 ∧ casB s.xs (xDA t n x) x.found = true) (.ret (.bool true) (xH t n x (s.swapd (xDA t n x) (dPutV (cutI x.found 0 12) (cutI x.found 12 9) (cutI x.found 21 18) (cutI x.found 39 9) (ieq (cutI x.found 48 1) 1) 4 (cutI x.found 52 10)))))) (.pre False (.ret (.bool false) []))))
theorem xkD_sum (t n : Int) (x : XE) (s : MS) (l : Nat) (K : AVal → Heap Ob → Prop) (h : (xkDO t n x s l).run K) : l = s.xs.length ∧ (xstO t n x s).run K := by
  unfold xkDO at h
  cases c0 : Nat.beq x.at'.toNat 0
  case true =>
    simp only [c0, cond_true] at h
    obtain ⟨⟨hl, hg, ha, hp⟩, hK⟩ := h
    exact ⟨hl, xst_load t n x s K 2 1 hg ha hp (by decide) hK⟩
  simp only [c0, cond_false] at h
  cases c1 : Nat.beq x.at'.toNat 1
  case true =>
    simp only [c1, cond_true] at h
    obtain ⟨⟨hl, hg, ha, hp⟩, hK⟩ := h
    exact ⟨hl, xst_look1 t n x s K hg ha (by rw [hp]; exact hK)⟩
  simp only [c1, cond_false] at h
  cases c4 : Nat.beq x.at'.toNat 4
  case true =>
    simp only [c4, cond_true] at h
    obtain ⟨⟨hl, hg, ha, hp⟩, hK⟩ := h
    exact ⟨hl, xst_loses t n x s K hg ha hp hK⟩
  simp only [c4, cond_false] at h
  exact h.1.elim
def xkDS : Spec Ob := fun args h => match args, h with
  | [.ptr 0 0, .ptr 1 0], [some (.cells [.int .i64 t, .int .i64 n, .int .i64 pop, .int .i64 gave, .int .i64 u, .int .i64 sh, .int .i64 kd, .int .i64 ky, .bool only, .int .i64 att, .int .i64 at', .int .u64 found, .int .u64 word]), e1, e2] => (match memL 2 [e1, e2] with
    | some (l, s) => some (xkDO t n ⟨pop, gave, u, sh, kd, ky, only, att, at', found, word⟩ s l)
    | none => none)
  | _, _ => none
theorem xkD_ok : Spec.ok (obI tbl) Try.prog 51 xkDS := by
  intro args h o ho K hK
  unfold xkDS at ho
  split at ho
  case h_2 => cases ho
  split at ho
  case h_2 => cases ho
  rename_i hm
  simp only [Option.some.injEq] at ho; subst ho
  obtain ⟨hl, hK⟩ := xkD_sum _ _ _ _ _ K hK
  have hh := memL_eq hm hl
  simp only [List.cons.injEq, and_true] at hh
  obtain ⟨rfl, rfl⟩ := hh
  exact xst_sum _ _ _ _ K hK
noncomputable def EKD := EX3.addS 51 xkDS xkD_ok
def xkEO (t n : Int) (x : XE) (s : MS) (l : Nat) : Out Ob := cond (Nat.beq x.at'.toNat 0) (.pre (l = s.xs.length ∧ xGood t n x s ∧ x.at' = 0 ∧ cutI (peek s.xs (xDA t n x)) 49 3 = 4) (.ret (.bool false) (xH t n { x with at' := 8, found := peek s.xs (xDA t n x) } (s.loadd (xDA t n x))))) (cond (Nat.beq x.at'.toNat 8) (.pre (l = s.xs.length ∧ xGood t n x s ∧ x.at' = 8 ∧ (casB s.xs (xDA t n x) x.found = true ∧ (bif linksB x.kd then !nodeB n (cutI x.found 39 9) else true) = true)) (.ret (.bool true) (xH t n { x with at' := 9 } (s.swapd (xDA t n x) (dPutV (attI (cutI x.found 0 12)) 0 0 0 false 1 0))))) (.pre False (.ret (.bool false) [])))
theorem xkE_sum (t n : Int) (x : XE) (s : MS) (l : Nat) (K : AVal → Heap Ob → Prop) (h : (xkEO t n x s l).run K) : l = s.xs.length ∧ (xstO t n x s).run K := by
  unfold xkEO at h
  cases c0 : Nat.beq x.at'.toNat 0
  case true =>
    simp only [c0, cond_true] at h
    obtain ⟨⟨hl, hg, ha, hp⟩, hK⟩ := h
    exact ⟨hl, xst_load t n x s K 4 8 hg ha hp (by decide) hK⟩
  simp only [c0, cond_false] at h
  cases c8 : Nat.beq x.at'.toNat 8
  case true =>
    simp only [c8, cond_true] at h
    obtain ⟨⟨hl, hg, ha, hp⟩, hK⟩ := h
    exact ⟨hl, xst_nexts t n x s K hg ha hp.1 (by rw [hp.2]; exact hK)⟩
  simp only [c8, cond_false] at h
  exact h.1.elim
def xkES : Spec Ob := fun args h => match args, h with
  | [.ptr 0 0, .ptr 1 0], [some (.cells [.int .i64 t, .int .i64 n, .int .i64 pop, .int .i64 gave, .int .i64 u, .int .i64 sh, .int .i64 kd, .int .i64 ky, .bool only, .int .i64 att, .int .i64 at', .int .u64 found, .int .u64 word]), e1, e2] => (match memL 2 [e1, e2] with
    | some (l, s) => some (xkEO t n ⟨pop, gave, u, sh, kd, ky, only, att, at', found, word⟩ s l)
    | none => none)
  | _, _ => none
theorem xkE_ok : Spec.ok (obI tbl) Try.prog 51 xkES := by
  intro args h o ho K hK
  unfold xkES at ho
  split at ho
  case h_2 => cases ho
  split at ho
  case h_2 => cases ho
  rename_i hm
  simp only [Option.some.injEq] at ho; subst ho
  obtain ⟨hl, hK⟩ := xkE_sum _ _ _ _ _ K hK
  have hh := memL_eq hm hl
  simp only [List.cons.injEq, and_true] at hh
  obtain ⟨rfl, rfl⟩ := hh
  exact xst_sum _ _ _ _ K hK
noncomputable def EKE := EX3.addS 51 xkES xkE_ok
def xkFO (t n : Int) (x : XE) (s : MS) (l : Nat) : Out Ob := cond (Nat.beq x.at'.toNat 0) (.pre (l = s.xs.length ∧ xGood t n x s ∧ x.at' = 0 ∧ cutI (peek s.xs (xDA t n x)) 49 3 = 4) (.ret (.bool false) (xH t n { x with at' := 8, found := peek s.xs (xDA t n x) } (s.loadd (xDA t n x))))) (cond (Nat.beq x.at'.toNat 8) (.pre (l = s.xs.length ∧ xGood t n x s ∧ x.at' = 8 ∧ (casB s.xs (xDA t n x) x.found = true ∧ (bif linksB x.kd then !nodeB n (cutI x.found 39 9) else true) = false)) (.ret (.bool false) (xH t n { x with at' := 9 } (s.swapd (xDA t n x) (dPutV (attI (cutI x.found 0 12)) 0 0 0 false 1 0))))) (cond (Nat.beq x.at'.toNat 9) (.pre (l = s.xs.length ∧ xGood t n x s ∧ x.at' = 9 ∧ True) (.ret (.bool true) (xH t n { x with gave := cutI x.found 39 9 } (s.added (n + 4 + cutI x.found 39 9) 1)))) (.pre False (.ret (.bool false) []))))
theorem xkF_sum (t n : Int) (x : XE) (s : MS) (l : Nat) (K : AVal → Heap Ob → Prop) (h : (xkFO t n x s l).run K) : l = s.xs.length ∧ (xstO t n x s).run K := by
  unfold xkFO at h
  cases c0 : Nat.beq x.at'.toNat 0
  case true =>
    simp only [c0, cond_true] at h
    obtain ⟨⟨hl, hg, ha, hp⟩, hK⟩ := h
    exact ⟨hl, xst_load t n x s K 4 8 hg ha hp (by decide) hK⟩
  simp only [c0, cond_false] at h
  cases c8 : Nat.beq x.at'.toNat 8
  case true =>
    simp only [c8, cond_true] at h
    obtain ⟨⟨hl, hg, ha, hp⟩, hK⟩ := h
    exact ⟨hl, xst_nexts t n x s K hg ha hp.1 (by rw [hp.2]; exact hK)⟩
  simp only [c8, cond_false] at h
  cases c9 : Nat.beq x.at'.toNat 9
  case true =>
    simp only [c9, cond_true] at h
    obtain ⟨⟨hl, hg, ha, hp⟩, hK⟩ := h
    exact ⟨hl, xst_gives t n x s K hg ha hK⟩
  simp only [c9, cond_false] at h
  exact h.1.elim
def xkFS : Spec Ob := fun args h => match args, h with
  | [.ptr 0 0, .ptr 1 0], [some (.cells [.int .i64 t, .int .i64 n, .int .i64 pop, .int .i64 gave, .int .i64 u, .int .i64 sh, .int .i64 kd, .int .i64 ky, .bool only, .int .i64 att, .int .i64 at', .int .u64 found, .int .u64 word]), e1, e2] => (match memL 2 [e1, e2] with
    | some (l, s) => some (xkFO t n ⟨pop, gave, u, sh, kd, ky, only, att, at', found, word⟩ s l)
    | none => none)
  | _, _ => none
theorem xkF_ok : Spec.ok (obI tbl) Try.prog 51 xkFS := by
  intro args h o ho K hK
  unfold xkFS at ho
  split at ho
  case h_2 => cases ho
  split at ho
  case h_2 => cases ho
  rename_i hm
  simp only [Option.some.injEq] at ho; subst ho
  obtain ⟨hl, hK⟩ := xkF_sum _ _ _ _ _ K hK
  have hh := memL_eq hm hl
  simp only [List.cons.injEq, and_true] at hh
  obtain ⟨rfl, rfl⟩ := hh
  exact xst_sum _ _ _ _ K hK
noncomputable def EKF := EX3.addS 51 xkFS xkF_ok
end Go.Sh

