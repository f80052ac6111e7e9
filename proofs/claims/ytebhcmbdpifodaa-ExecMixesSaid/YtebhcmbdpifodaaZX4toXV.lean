import Derived.Test.YtebhcmbdpifodaaZRN0toX3
set_option linter.all false
namespace Go.Sh.XX
open Go Go.Proofs
variable [Con]
def xstO (t n : Int) (x : XE) (s : MS) : Out Ob := .pre True (.pre True (.ite (ieq x.9 0) (.pre ((((0 : Int) ≤ t ∧ t ≤ (100000 : Int)) ∧ ((0 : Int) ≤ n ∧ n ≤ (100000 : Int)) ∧ (-1099511627776 : Int) ≤ x.3 ∧ x.3 ≤ (1099511627776 : Int)) ∧ True) (.pre ((List.length s.3 = List.length s.3 ∧ (0 : Int) ≤ s.4 ∧ s.4 ≤ (4611686018427387904 : Int)) ∧ True) (.ite x.7 (.pre True (.ite (!ieq (cutI (peek s.3 (2 * n + 5 + 2 * t + 3 * x.3 + 2)) 0 12) x.8) (.ret (.bool true) [some (.cells [.int .i64 t, .int .i64 n, .int .i64 x.1, .int .i64 x.2, .int .i64 x.3, .int .i64 x.4, .int .i64 x.5, .int .i64 x.6, .bool x.7, .int .i64 x.8, .int .i64 x.9, .int .u64 (peek s.3 (2 * n + 5 + 2 * t + 3 * x.3 + 2)), .int .u64 x.11]), some (.cells [.int .i64 s.1, .int .i64 s.2, .slice 2 0 (List.length s.3) 1, .int .i64 (s.4 + 1), .int .i64 1, .int .i64 (2 * n + 5 + 2 * t + 3 * x.3 + 2), .int .u64 (peek s.3 (2 * n + 5 + 2 * t + 3 * x.3 + 2)), .int .u64 (peek s.3 (2 * n + 5 + 2 * t + 3 * x.3 + 2)), .bool (inB s.3 (2 * n + 5 + 2 * t + 3 * x.3 + 2))]), some (.ints (some .u64) s.3)]) (.pre True (.ite (ieq (cutI (peek s.3 (2 * n + 5 + 2 * t + 3 * x.3 + 2)) 49 3) 2) (.ret (.bool false) [some (.cells [.int .i64 t, .int .i64 n, .int .i64 x.1, .int .i64 x.2, .int .i64 x.3, .int .i64 x.4, .int .i64 x.5, .int .i64 x.6, .bool x.7, .int .i64 x.8, .int .i64 1, .int .u64 (peek s.3 (2 * n + 5 + 2 * t + 3 * x.3 + 2)), .int .u64 x.11]), some (.cells [.int .i64 s.1, .int .i64 s.2, .slice 2 0 (List.length s.3) 1, .int .i64 (s.4 + 1), .int .i64 1, .int .i64 (2 * n + 5 + 2 * t + 3 * x.3 + 2), .int .u64 (peek s.3 (2 * n + 5 + 2 * t + 3 * x.3 + 2)), .int .u64 (peek s.3 (2 * n + 5 + 2 * t + 3 * x.3 + 2)), .bool (inB s.3 (2 * n + 5 + 2 * t + 3 * x.3 + 2))]), some (.ints (some .u64) s.3)]) (.ite (ieq (cutI (peek s.3 (2 * n + 5 + 2 * t + 3 * x.3 + 2)) 49 3) 3) (.ret (.bool false) [some (.cells [.int .i64 t, .int .i64 n, .int .i64 x.1, .int .i64 x.2, .int .i64 x.3, .int .i64 x.4, .int .i64 x.5, .int .i64 x.6, .bool x.7, .int .i64 x.8, .int .i64 5, .int .u64 (peek s.3 (2 * n + 5 + 2 * t + 3 * x.3 + 2)), .int .u64 x.11]), some (.cells [.int .i64 s.1, .int .i64 s.2, .slice 2 0 (List.length s.3) 1, .int .i64 (s.4 + 1), .int .i64 1, .int .i64 (2 * n + 5 + 2 * t + 3 * x.3 + 2), .int .u64 (peek s.3 (2 * n + 5 + 2 * t + 3 * x.3 + 2)), .int .u64 (peek s.3 (2 * n + 5 + 2 * t + 3 * x.3 + 2)), .bool (inB s.3 (2 * n + 5 + 2 * t + 3 * x.3 + 2))]), some (.ints (some .u64) s.3)]) (.ite (ieq (cutI (peek s.3 (2 * n + 5 + 2 * t + 3 * x.3 + 2)) 49 3) 4) (.ret (.bool false) [some (.cells [.int .i64 t, .int .i64 n, .int .i64 x.1, .int .i64 x.2, .int .i64 x.3, .int .i64 x.4, .int .i64 x.5, .int .i64 x.6, .bool x.7, .int .i64 x.8, .int .i64 8, .int .u64 (peek s.3 (2 * n + 5 + 2 * t + 3 * x.3 + 2)), .int .u64 x.11]), some (.cells [.int .i64 s.1, .int .i64 s.2, .slice 2 0 (List.length s.3) 1, .int .i64 (s.4 + 1), .int .i64 1, .int .i64 (2 * n + 5 + 2 * t + 3 * x.3 + 2), .int .u64 (peek s.3 (2 * n + 5 + 2 * t + 3 * x.3 + 2)), .int .u64 (peek s.3 (2 * n + 5 + 2 * t + 3 * x.3 + 2)), .bool (inB s.3 (2 * n + 5 + 2 * t + 3 * x.3 + 2))]), some (.ints (some .u64) s.3)]) (.ret (.bool true) [some (.cells [.int .i64 t, .int .i64 n, .int .i64 x.1, .int .i64 x.2, .int .i64 x.3, .int .i64 x.4, .int .i64 x.5, .int .i64 x.6, .bool x.7, .int .i64 x.8, .int .i64 x.9, .int .u64 (peek s.3 (2 * n + 5 + 2 * t + 3 * x.3 + 2)), .int .u64 x.11]), some (.cells [.int .i64 s.1, .int .i64 s.2, .slice 2 0 (List.length s.3) 1, .int .i64 (s.4 + 1), .int .i64 1, .int .i64 (2 * n + 5 + 2 * t + 3 * x.3 + 2), .int .u64 (peek s.3 (2 * n + 5 + 2 * t + 3 * x.3 + 2)), .int .u64 (peek s.3 (2 * n + 5 + 2 * t + 3 * x.3 + 2)), .bool (inB s.3 (2 * n + 5 + 2 * t + 3 * x.3 + 2))]), some (.ints (some .u64) s.3)]))))))) (.pre True (.ite (ieq (cutI (peek s.3 (2 * n + 5 + 2 * t + 3 * x.3 + 2)) 49 3) 2) (.ret (.bool false) [some (.cells [.int .i64 t, .int .i64 n, .int .i64 x.1, .int .i64 x.2, .int .i64 x.3, .int .i64 x.4, .int .i64 x.5, .int .i64 x.6, .bool x.7, .int .i64 x.8, .int .i64 1, .int .u64 (peek s.3 (2 * n + 5 + 2 * t + 3 * x.3 + 2)), .int .u64 x.11]), some (.cells [.int .i64 s.1, .int .i64 s.2, .slice 2 0 (List.length s.3) 1, .int .i64 (s.4 + 1), .int .i64 1, .int .i64 (2 * n + 5 + 2 * t + 3 * x.3 + 2), .int .u64 (peek s.3 (2 * n + 5 + 2 * t + 3 * x.3 + 2)), .int .u64 (peek s.3 (2 * n + 5 + 2 * t + 3 * x.3 + 2)), .bool (inB s.3 (2 * n + 5 + 2 * t + 3 * x.3 + 2))]), some (.ints (some .u64) s.3)]) (.ite (ieq (cutI (peek s.3 (2 * n + 5 + 2 * t + 3 * x.3 + 2)) 49 3) 3) (.ret (.bool false) [some (.cells [.int .i64 t, .int .i64 n, .int .i64 x.1, .int .i64 x.2, .int .i64 x.3, .int .i64 x.4, .int .i64 x.5, .int .i64 x.6, .bool x.7, .int .i64 x.8, .int .i64 5, .int .u64 (peek s.3 (2 * n + 5 + 2 * t + 3 * x.3 + 2)), .int .u64 x.11]), some (.cells [.int .i64 s.1, .int .i64 s.2, .slice 2 0 (List.length s.3) 1, .int .i64 (s.4 + 1), .int .i64 1, .int .i64 (2 * n + 5 + 2 * t + 3 * x.3 + 2), .int .u64 (peek s.3 (2 * n + 5 + 2 * t + 3 * x.3 + 2)), .int .u64 (peek s.3 (2 * n + 5 + 2 * t + 3 * x.3 + 2)), .bool (inB s.3 (2 * n + 5 + 2 * t + 3 * x.3 + 2))]), some (.ints (some .u64) s.3)]) (.ite (ieq (cutI (peek s.3 (2 * n + 5 + 2 * t + 3 * x.3 + 2)) 49 3) 4) (.ret (.bool false) [some (.cells [.int .i64 t, .int .i64 n, .int .i64 x.1, .int .i64 x.2, .int .i64 x.3, .int .i64 x.4, .int .i64 x.5, .int .i64 x.6, .bool x.7, .int .i64 x.8, .int .i64 8, .int .u64 (peek s.3 (2 * n + 5 + 2 * t + 3 * x.3 + 2)), .int .u64 x.11]), some (.cells [.int .i64 s.1, .int .i64 s.2, .slice 2 0 (List.length s.3) 1, .int .i64 (s.4 + 1), .int .i64 1, .int .i64 (2 * n + 5 + 2 * t + 3 * x.3 + 2), .int .u64 (peek s.3 (2 * n + 5 + 2 * t + 3 * x.3 + 2)), .int .u64 (peek s.3 (2 * n + 5 + 2 * t + 3 * x.3 + 2)), .bool (inB s.3 (2 * n + 5 + 2 * t + 3 * x.3 + 2))]), some (.ints (some .u64) s.3)]) (.ret (.bool true) [some (.cells [.int .i64 t, .int .i64 n, .int .i64 x.1, .int .i64 x.2, .int .i64 x.3, .int .i64 x.4, .int .i64 x.5, .int .i64 x.6, .bool x.7, .int .i64 x.8, .int .i64 x.9, .int .u64 (peek s.3 (2 * n + 5 + 2 * t + 3 * x.3 + 2)), .int .u64 x.11]), some (.cells [.int .i64 s.1, .int .i64 s.2, .slice 2 0 (List.length s.3) 1, .int .i64 (s.4 + 1), .int .i64 1, .int .i64 (2 * n + 5 + 2 * t + 3 * x.3 + 2), .int .u64 (peek s.3 (2 * n + 5 + 2 * t + 3 * x.3 + 2)), .int .u64 (peek s.3 (2 * n + 5 + 2 * t + 3 * x.3 + 2)), .bool (inB s.3 (2 * n + 5 + 2 * t + 3 * x.3 + 2))]), some (.ints (some .u64) s.3)])))))))) (.ite (ieq x.9 1) (.pre True (.pre (List.length s.3 = List.length s.3 ∧ (0 : Int) ≤ s.4 ∧ s.4 ≤ (4611686018427387904 : Int)) (.pre True (.pre True (.ite (ieq (cutI (peek s.3 (cutI x.10 12 9)) 25 18) (cutI x.10 21 18)) (.ite (ieq (cutI (peek s.3 (cutI x.10 12 9)) 20 5) 0) (.ret (.bool false) [some (.cells [.int .i64 t, .int .i64 n, .int .i64 x.1, .int .i64 x.2, .int .i64 x.3, .int .i64 x.4, .int .i64 x.5, .int .i64 x.6, .bool x.7, .int .i64 x.8, .int .i64 2, .int .u64 x.10, .int .u64 (peek s.3 (cutI x.10 12 9))]), some (.cells [.int .i64 s.1, .int .i64 s.2, .slice 2 0 (List.length s.3) 1, .int .i64 (s.4 + 1), .int .i64 1, .int .i64 (cutI x.10 12 9), .int .u64 (peek s.3 (cutI x.10 12 9)), .int .u64 (peek s.3 (cutI x.10 12 9)), .bool (inB s.3 (cutI x.10 12 9))]), some (.ints (some .u64) s.3)]) (.pre True (.ite (ieq (cutI (peek s.3 (cutI x.10 12 9)) 25 18) (cutI x.10 21 18)) (.ite (ieq (cutI (peek s.3 (cutI x.10 12 9)) 20 5) (W (x.3 + 1))) (.ret (.bool false) [some (.cells [.int .i64 t, .int .i64 n, .int .i64 x.1, .int .i64 x.2, .int .i64 x.3, .int .i64 x.4, .int .i64 x.5, .int .i64 x.6, .bool x.7, .int .i64 x.8, .int .i64 3, .int .u64 x.10, .int .u64 (peek s.3 (cutI x.10 12 9))]), some (.cells [.int .i64 s.1, .int .i64 s.2, .slice 2 0 (List.length s.3) 1, .int .i64 (s.4 + 1), .int .i64 1, .int .i64 (cutI x.10 12 9), .int .u64 (peek s.3 (cutI x.10 12 9)), .int .u64 (peek s.3 (cutI x.10 12 9)), .bool (inB s.3 (cutI x.10 12 9))]), some (.ints (some .u64) s.3)]) (.ret (.bool false) [some (.cells [.int .i64 t, .int .i64 n, .int .i64 x.1, .int .i64 x.2, .int .i64 x.3, .int .i64 x.4, .int .i64 x.5, .int .i64 x.6, .bool x.7, .int .i64 x.8, .int .i64 4, .int .u64 x.10, .int .u64 (peek s.3 (cutI x.10 12 9))]), some (.cells [.int .i64 s.1, .int .i64 s.2, .slice 2 0 (List.length s.3) 1, .int .i64 (s.4 + 1), .int .i64 1, .int .i64 (cutI x.10 12 9), .int .u64 (peek s.3 (cutI x.10 12 9)), .int .u64 (peek s.3 (cutI x.10 12 9)), .bool (inB s.3 (cutI x.10 12 9))]), some (.ints (some .u64) s.3)])) (.ret (.bool false) [some (.cells [.int .i64 t, .int .i64 n, .int .i64 x.1, .int .i64 x.2, .int .i64 x.3, .int .i64 x.4, .int .i64 x.5, .int .i64 x.6, .bool x.7, .int .i64 x.8, .int .i64 4, .int .u64 x.10, .int .u64 (peek s.3 (cutI x.10 12 9))]), some (.cells [.int .i64 s.1, .int .i64 s.2, .slice 2 0 (List.length s.3) 1, .int .i64 (s.4 + 1), .int .i64 1, .int .i64 (cutI x.10 12 9), .int .u64 (peek s.3 (cutI x.10 12 9)), .int .u64 (peek s.3 (cutI x.10 12 9)), .bool (inB s.3 (cutI x.10 12 9))]), some (.ints (some .u64) s.3)])))) (.pre True (.ite (ieq (cutI (peek s.3 (cutI x.10 12 9)) 25 18) (cutI x.10 21 18)) (.ite (ieq (cutI (peek s.3 (cutI x.10 12 9)) 20 5) (W (x.3 + 1))) (.ret (.bool false) [some (.cells [.int .i64 t, .int .i64 n, .int .i64 x.1, .int .i64 x.2, .int .i64 x.3, .int .i64 x.4, .int .i64 x.5, .int .i64 x.6, .bool x.7, .int .i64 x.8, .int .i64 3, .int .u64 x.10, .int .u64 (peek s.3 (cutI x.10 12 9))]), some (.cells [.int .i64 s.1, .int .i64 s.2, .slice 2 0 (List.length s.3) 1, .int .i64 (s.4 + 1), .int .i64 1, .int .i64 (cutI x.10 12 9), .int .u64 (peek s.3 (cutI x.10 12 9)), .int .u64 (peek s.3 (cutI x.10 12 9)), .bool (inB s.3 (cutI x.10 12 9))]), some (.ints (some .u64) s.3)]) (.ret (.bool false) [some (.cells [.int .i64 t, .int .i64 n, .int .i64 x.1, .int .i64 x.2, .int .i64 x.3, .int .i64 x.4, .int .i64 x.5, .int .i64 x.6, .bool x.7, .int .i64 x.8, .int .i64 4, .int .u64 x.10, .int .u64 (peek s.3 (cutI x.10 12 9))]), some (.cells [.int .i64 s.1, .int .i64 s.2, .slice 2 0 (List.length s.3) 1, .int .i64 (s.4 + 1), .int .i64 1, .int .i64 (cutI x.10 12 9), .int .u64 (peek s.3 (cutI x.10 12 9)), .int .u64 (peek s.3 (cutI x.10 12 9)), .bool (inB s.3 (cutI x.10 12 9))]), some (.ints (some .u64) s.3)])) (.ret (.bool false) [some (.cells [.int .i64 t, .int .i64 n, .int .i64 x.1, .int .i64 x.2, .int .i64 x.3, .int .i64 x.4, .int .i64 x.5, .int .i64 x.6, .bool x.7, .int .i64 x.8, .int .i64 4, .int .u64 x.10, .int .u64 (peek s.3 (cutI x.10 12 9))]), some (.cells [.int .i64 s.1, .int .i64 s.2, .slice 2 0 (List.length s.3) 1, .int .i64 (s.4 + 1), .int .i64 1, .int .i64 (cutI x.10 12 9), .int .u64 (peek s.3 (cutI x.10 12 9)), .int .u64 (peek s.3 (cutI x.10 12 9)), .bool (inB s.3 (cutI x.10 12 9))]), some (.ints (some .u64) s.3)])))))))) (.ite (ieq x.9 2) (.pre ((-1000000 : Int) ≤ x.3 ∧ x.3 ≤ (1000000 : Int)) (.pre (List.length s.3 = List.length s.3 ∧ True ∧ True ∧ ((List.length s.3 = List.length s.3 ∧ (0 : Int) ≤ s.4 ∧ s.4 ≤ (4611686018427387904 : Int)) ∧ True) ∧ True) (.ite (casB s.3 (cutI x.10 12 9) x.11) (.pre True (.ite (popsB x.4 x.5) (.ret (.bool true) [some (.cells [.int .i64 t, .int .i64 n, .int .i64 (cutI x.11 10 9), .int .i64 x.2, .int .i64 x.3, .int .i64 x.4, .int .i64 x.5, .int .i64 x.6, .bool x.7, .int .i64 x.8, .int .i64 x.9, .int .u64 x.10, .int .u64 x.11]), some (.cells [.int .i64 s.1, .int .i64 s.2, .slice 2 0 (List.length (bif casB s.3 (cutI x.10 12 9) x.11 then putI s.3 (cutI x.10 12 9) (bif bif fitI (cutI x.11 0 10) 10 then bif fitI (cutI x.10 39 9) 9 then bif fitI (x.3 + 1) 5 then fitI (cutI x.11 25 18) 18 else false else false else false then putV (cutI x.11 0 10) (cutI x.10 39 9) (ieq (cutI x.10 48 1) 1) (x.3 + 1) (cutI x.11 25 18) else 0) else s.3)) 1, .int .i64 (s.4 + 1), .int .i64 3, .int .i64 (cutI x.10 12 9), .int .u64 (peek s.3 (cutI x.10 12 9)), .int .u64 (bif inB s.3 (cutI x.10 12 9) then bif bif fitI (cutI x.11 0 10) 10 then bif fitI (cutI x.10 39 9) 9 then bif fitI (x.3 + 1) 5 then fitI (cutI x.11 25 18) 18 else false else false else false then putV (cutI x.11 0 10) (cutI x.10 39 9) (ieq (cutI x.10 48 1) 1) (x.3 + 1) (cutI x.11 25 18) else 0 else 0), .bool (casB s.3 (cutI x.10 12 9) x.11)]), some (.ints (some .u64) (bif casB s.3 (cutI x.10 12 9) x.11 then putI s.3 (cutI x.10 12 9) (bif bif fitI (cutI x.11 0 10) 10 then bif fitI (cutI x.10 39 9) 9 then bif fitI (x.3 + 1) 5 then fitI (cutI x.11 25 18) 18 else false else false else false then putV (cutI x.11 0 10) (cutI x.10 39 9) (ieq (cutI x.10 48 1) 1) (x.3 + 1) (cutI x.11 25 18) else 0) else s.3))]) (.ret (.bool true) [some (.cells [.int .i64 t, .int .i64 n, .int .i64 x.1, .int .i64 x.2, .int .i64 x.3, .int .i64 x.4, .int .i64 x.5, .int .i64 x.6, .bool x.7, .int .i64 x.8, .int .i64 x.9, .int .u64 x.10, .int .u64 x.11]), some (.cells [.int .i64 s.1, .int .i64 s.2, .slice 2 0 (List.length (bif casB s.3 (cutI x.10 12 9) x.11 then putI s.3 (cutI x.10 12 9) (bif bif fitI (cutI x.11 0 10) 10 then bif fitI (cutI x.10 39 9) 9 then bif fitI (x.3 + 1) 5 then fitI (cutI x.11 25 18) 18 else false else false else false then putV (cutI x.11 0 10) (cutI x.10 39 9) (ieq (cutI x.10 48 1) 1) (x.3 + 1) (cutI x.11 25 18) else 0) else s.3)) 1, .int .i64 (s.4 + 1), .int .i64 3, .int .i64 (cutI x.10 12 9), .int .u64 (peek s.3 (cutI x.10 12 9)), .int .u64 (bif inB s.3 (cutI x.10 12 9) then bif bif fitI (cutI x.11 0 10) 10 then bif fitI (cutI x.10 39 9) 9 then bif fitI (x.3 + 1) 5 then fitI (cutI x.11 25 18) 18 else false else false else false then putV (cutI x.11 0 10) (cutI x.10 39 9) (ieq (cutI x.10 48 1) 1) (x.3 + 1) (cutI x.11 25 18) else 0 else 0), .bool (casB s.3 (cutI x.10 12 9) x.11)]), some (.ints (some .u64) (bif casB s.3 (cutI x.10 12 9) x.11 then putI s.3 (cutI x.10 12 9) (bif bif fitI (cutI x.11 0 10) 10 then bif fitI (cutI x.10 39 9) 9 then bif fitI (x.3 + 1) 5 then fitI (cutI x.11 25 18) 18 else false else false else false then putV (cutI x.11 0 10) (cutI x.10 39 9) (ieq (cutI x.10 48 1) 1) (x.3 + 1) (cutI x.11 25 18) else 0) else s.3))]))) (.ret (.bool true) [some (.cells [.int .i64 t, .int .i64 n, .int .i64 x.1, .int .i64 x.2, .int .i64 x.3, .int .i64 x.4, .int .i64 x.5, .int .i64 x.6, .bool x.7, .int .i64 x.8, .int .i64 x.9, .int .u64 x.10, .int .u64 x.11]), some (.cells [.int .i64 s.1, .int .i64 s.2, .slice 2 0 (List.length (bif casB s.3 (cutI x.10 12 9) x.11 then putI s.3 (cutI x.10 12 9) (bif bif fitI (cutI x.11 0 10) 10 then bif fitI (cutI x.10 39 9) 9 then bif fitI (x.3 + 1) 5 then fitI (cutI x.11 25 18) 18 else false else false else false then putV (cutI x.11 0 10) (cutI x.10 39 9) (ieq (cutI x.10 48 1) 1) (x.3 + 1) (cutI x.11 25 18) else 0) else s.3)) 1, .int .i64 (s.4 + 1), .int .i64 3, .int .i64 (cutI x.10 12 9), .int .u64 (peek s.3 (cutI x.10 12 9)), .int .u64 (bif inB s.3 (cutI x.10 12 9) then bif bif fitI (cutI x.11 0 10) 10 then bif fitI (cutI x.10 39 9) 9 then bif fitI (x.3 + 1) 5 then fitI (cutI x.11 25 18) 18 else false else false else false then putV (cutI x.11 0 10) (cutI x.10 39 9) (ieq (cutI x.10 48 1) 1) (x.3 + 1) (cutI x.11 25 18) else 0 else 0), .bool (casB s.3 (cutI x.10 12 9) x.11)]), some (.ints (some .u64) (bif casB s.3 (cutI x.10 12 9) x.11 then putI s.3 (cutI x.10 12 9) (bif bif fitI (cutI x.11 0 10) 10 then bif fitI (cutI x.10 39 9) 9 then bif fitI (x.3 + 1) 5 then fitI (cutI x.11 25 18) 18 else false else false else false then putV (cutI x.11 0 10) (cutI x.10 39 9) (ieq (cutI x.10 48 1) 1) (x.3 + 1) (cutI x.11 25 18) else 0) else s.3))])))) (.ite (ieq x.9 3) (.pre (List.length s.3 = List.length s.3) (.pre True (.pre ((((0 : Int) ≤ t ∧ t ≤ (100000 : Int)) ∧ ((0 : Int) ≤ n ∧ n ≤ (100000 : Int)) ∧ (-1099511627776 : Int) ≤ x.3 ∧ x.3 ≤ (1099511627776 : Int)) ∧ True) (.pre ((List.length s.3 = List.length s.3 ∧ (0 : Int) ≤ s.4 ∧ s.4 ≤ (4611686018427387904 : Int)) ∧ True) (.ret (.bool true) [some (.cells [.int .i64 t, .int .i64 n, .int .i64 x.1, .int .i64 x.2, .int .i64 x.3, .int .i64 x.4, .int .i64 x.5, .int .i64 x.6, .bool x.7, .int .i64 x.8, .int .i64 x.9, .int .u64 x.10, .int .u64 x.11]), some (.cells [.int .i64 s.1, .int .i64 s.2, .slice 2 0 (List.length (bif casB s.3 (2 * n + 5 + 2 * t + 3 * x.3 + 2) x.10 then putI s.3 (2 * n + 5 + 2 * t + 3 * x.3 + 2) (bif dOk (cutI x.10 0 12) (cutI x.10 12 9) (cutI x.10 21 18) (cutI x.10 39 9) 3 (cutI x.10 52 10) then dPutV (cutI x.10 0 12) (cutI x.10 12 9) (cutI x.10 21 18) (cutI x.10 39 9) (ieq (cutI x.10 48 1) 1) 3 (cutI x.10 52 10) else 0) else s.3)) 1, .int .i64 (s.4 + 1), .int .i64 3, .int .i64 (2 * n + 5 + 2 * t + 3 * x.3 + 2), .int .u64 (peek s.3 (2 * n + 5 + 2 * t + 3 * x.3 + 2)), .int .u64 (bif inB s.3 (2 * n + 5 + 2 * t + 3 * x.3 + 2) then bif dOk (cutI x.10 0 12) (cutI x.10 12 9) (cutI x.10 21 18) (cutI x.10 39 9) 3 (cutI x.10 52 10) then dPutV (cutI x.10 0 12) (cutI x.10 12 9) (cutI x.10 21 18) (cutI x.10 39 9) (ieq (cutI x.10 48 1) 1) 3 (cutI x.10 52 10) else 0 else 0), .bool (casB s.3 (2 * n + 5 + 2 * t + 3 * x.3 + 2) x.10)]), some (.ints (some .u64) (bif casB s.3 (2 * n + 5 + 2 * t + 3 * x.3 + 2) x.10 then putI s.3 (2 * n + 5 + 2 * t + 3 * x.3 + 2) (bif dOk (cutI x.10 0 12) (cutI x.10 12 9) (cutI x.10 21 18) (cutI x.10 39 9) 3 (cutI x.10 52 10) then dPutV (cutI x.10 0 12) (cutI x.10 12 9) (cutI x.10 21 18) (cutI x.10 39 9) (ieq (cutI x.10 48 1) 1) 3 (cutI x.10 52 10) else 0) else s.3))]))))) (.ite (ieq x.9 4) (.pre (List.length s.3 = List.length s.3) (.pre True (.pre ((((0 : Int) ≤ t ∧ t ≤ (100000 : Int)) ∧ ((0 : Int) ≤ n ∧ n ≤ (100000 : Int)) ∧ (-1099511627776 : Int) ≤ x.3 ∧ x.3 ≤ (1099511627776 : Int)) ∧ True) (.pre ((List.length s.3 = List.length s.3 ∧ (0 : Int) ≤ s.4 ∧ s.4 ≤ (4611686018427387904 : Int)) ∧ True) (.ret (.bool true) [some (.cells [.int .i64 t, .int .i64 n, .int .i64 x.1, .int .i64 x.2, .int .i64 x.3, .int .i64 x.4, .int .i64 x.5, .int .i64 x.6, .bool x.7, .int .i64 x.8, .int .i64 x.9, .int .u64 x.10, .int .u64 x.11]), some (.cells [.int .i64 s.1, .int .i64 s.2, .slice 2 0 (List.length (bif casB s.3 (2 * n + 5 + 2 * t + 3 * x.3 + 2) x.10 then putI s.3 (2 * n + 5 + 2 * t + 3 * x.3 + 2) (bif dOk (cutI x.10 0 12) (cutI x.10 12 9) (cutI x.10 21 18) (cutI x.10 39 9) 4 (cutI x.10 52 10) then dPutV (cutI x.10 0 12) (cutI x.10 12 9) (cutI x.10 21 18) (cutI x.10 39 9) (ieq (cutI x.10 48 1) 1) 4 (cutI x.10 52 10) else 0) else s.3)) 1, .int .i64 (s.4 + 1), .int .i64 3, .int .i64 (2 * n + 5 + 2 * t + 3 * x.3 + 2), .int .u64 (peek s.3 (2 * n + 5 + 2 * t + 3 * x.3 + 2)), .int .u64 (bif inB s.3 (2 * n + 5 + 2 * t + 3 * x.3 + 2) then bif dOk (cutI x.10 0 12) (cutI x.10 12 9) (cutI x.10 21 18) (cutI x.10 39 9) 4 (cutI x.10 52 10) then dPutV (cutI x.10 0 12) (cutI x.10 12 9) (cutI x.10 21 18) (cutI x.10 39 9) (ieq (cutI x.10 48 1) 1) 4 (cutI x.10 52 10) else 0 else 0), .bool (casB s.3 (2 * n + 5 + 2 * t + 3 * x.3 + 2) x.10)]), some (.ints (some .u64) (bif casB s.3 (2 * n + 5 + 2 * t + 3 * x.3 + 2) x.10 then putI s.3 (2 * n + 5 + 2 * t + 3 * x.3 + 2) (bif dOk (cutI x.10 0 12) (cutI x.10 12 9) (cutI x.10 21 18) (cutI x.10 39 9) 4 (cutI x.10 52 10) then dPutV (cutI x.10 0 12) (cutI x.10 12 9) (cutI x.10 21 18) (cutI x.10 39 9) (ieq (cutI x.10 48 1) 1) 4 (cutI x.10 52 10) else 0) else s.3))]))))) (.ite (ieq x.9 5) (.pre True (.pre (List.length s.3 = List.length s.3 ∧ (0 : Int) ≤ s.4 ∧ s.4 ≤ (4611686018427387904 : Int)) (.pre True (.pre True (.ite (ieq (cutI (peek s.3 (cutI x.10 12 9)) 25 18) (cutI x.10 21 18)) (.ite (ieq (cutI (peek s.3 (cutI x.10 12 9)) 20 5) 0) (.ret (.bool false) [some (.cells [.int .i64 t, .int .i64 n, .int .i64 x.1, .int .i64 x.2, .int .i64 x.3, .int .i64 x.4, .int .i64 x.5, .int .i64 x.6, .bool x.7, .int .i64 x.8, .int .i64 7, .int .u64 x.10, .int .u64 (peek s.3 (cutI x.10 12 9))]), some (.cells [.int .i64 s.1, .int .i64 s.2, .slice 2 0 (List.length s.3) 1, .int .i64 (s.4 + 1), .int .i64 1, .int .i64 (cutI x.10 12 9), .int .u64 (peek s.3 (cutI x.10 12 9)), .int .u64 (peek s.3 (cutI x.10 12 9)), .bool (inB s.3 (cutI x.10 12 9))]), some (.ints (some .u64) s.3)]) (.pre True (.ite (ieq (cutI (peek s.3 (cutI x.10 12 9)) 25 18) (cutI x.10 21 18)) (.ite (ieq (cutI (peek s.3 (cutI x.10 12 9)) 20 5) (W (x.3 + 1))) (.ret (.bool false) [some (.cells [.int .i64 t, .int .i64 n, .int .i64 x.1, .int .i64 x.2, .int .i64 x.3, .int .i64 x.4, .int .i64 x.5, .int .i64 x.6, .bool x.7, .int .i64 x.8, .int .i64 6, .int .u64 x.10, .int .u64 (peek s.3 (cutI x.10 12 9))]), some (.cells [.int .i64 s.1, .int .i64 s.2, .slice 2 0 (List.length s.3) 1, .int .i64 (s.4 + 1), .int .i64 1, .int .i64 (cutI x.10 12 9), .int .u64 (peek s.3 (cutI x.10 12 9)), .int .u64 (peek s.3 (cutI x.10 12 9)), .bool (inB s.3 (cutI x.10 12 9))]), some (.ints (some .u64) s.3)]) (.ret (.bool false) [some (.cells [.int .i64 t, .int .i64 n, .int .i64 x.1, .int .i64 x.2, .int .i64 x.3, .int .i64 x.4, .int .i64 x.5, .int .i64 x.6, .bool x.7, .int .i64 x.8, .int .i64 7, .int .u64 x.10, .int .u64 (peek s.3 (cutI x.10 12 9))]), some (.cells [.int .i64 s.1, .int .i64 s.2, .slice 2 0 (List.length s.3) 1, .int .i64 (s.4 + 1), .int .i64 1, .int .i64 (cutI x.10 12 9), .int .u64 (peek s.3 (cutI x.10 12 9)), .int .u64 (peek s.3 (cutI x.10 12 9)), .bool (inB s.3 (cutI x.10 12 9))]), some (.ints (some .u64) s.3)])) (.ret (.bool false) [some (.cells [.int .i64 t, .int .i64 n, .int .i64 x.1, .int .i64 x.2, .int .i64 x.3, .int .i64 x.4, .int .i64 x.5, .int .i64 x.6, .bool x.7, .int .i64 x.8, .int .i64 7, .int .u64 x.10, .int .u64 (peek s.3 (cutI x.10 12 9))]), some (.cells [.int .i64 s.1, .int .i64 s.2, .slice 2 0 (List.length s.3) 1, .int .i64 (s.4 + 1), .int .i64 1, .int .i64 (cutI x.10 12 9), .int .u64 (peek s.3 (cutI x.10 12 9)), .int .u64 (peek s.3 (cutI x.10 12 9)), .bool (inB s.3 (cutI x.10 12 9))]), some (.ints (some .u64) s.3)])))) (.pre True (.ite (ieq (cutI (peek s.3 (cutI x.10 12 9)) 25 18) (cutI x.10 21 18)) (.ite (ieq (cutI (peek s.3 (cutI x.10 12 9)) 20 5) (W (x.3 + 1))) (.ret (.bool false) [some (.cells [.int .i64 t, .int .i64 n, .int .i64 x.1, .int .i64 x.2, .int .i64 x.3, .int .i64 x.4, .int .i64 x.5, .int .i64 x.6, .bool x.7, .int .i64 x.8, .int .i64 6, .int .u64 x.10, .int .u64 (peek s.3 (cutI x.10 12 9))]), some (.cells [.int .i64 s.1, .int .i64 s.2, .slice 2 0 (List.length s.3) 1, .int .i64 (s.4 + 1), .int .i64 1, .int .i64 (cutI x.10 12 9), .int .u64 (peek s.3 (cutI x.10 12 9)), .int .u64 (peek s.3 (cutI x.10 12 9)), .bool (inB s.3 (cutI x.10 12 9))]), some (.ints (some .u64) s.3)]) (.ret (.bool false) [some (.cells [.int .i64 t, .int .i64 n, .int .i64 x.1, .int .i64 x.2, .int .i64 x.3, .int .i64 x.4, .int .i64 x.5, .int .i64 x.6, .bool x.7, .int .i64 x.8, .int .i64 7, .int .u64 x.10, .int .u64 (peek s.3 (cutI x.10 12 9))]), some (.cells [.int .i64 s.1, .int .i64 s.2, .slice 2 0 (List.length s.3) 1, .int .i64 (s.4 + 1), .int .i64 1, .int .i64 (cutI x.10 12 9), .int .u64 (peek s.3 (cutI x.10 12 9)), .int .u64 (peek s.3 (cutI x.10 12 9)), .bool (inB s.3 (cutI x.10 12 9))]), some (.ints (some .u64) s.3)])) (.ret (.bool false) [some (.cells [.int .i64 t, .int .i64 n, .int .i64 x.1, .int .i64 x.2, .int .i64 x.3, .int .i64 x.4, .int .i64 x.5, .int .i64 x.6, .bool x.7, .int .i64 x.8, .int .i64 7, .int .u64 x.10, .int .u64 (peek s.3 (cutI x.10 12 9))]), some (.cells [.int .i64 s.1, .int .i64 s.2, .slice 2 0 (List.length s.3) 1, .int .i64 (s.4 + 1), .int .i64 1, .int .i64 (cutI x.10 12 9), .int .u64 (peek s.3 (cutI x.10 12 9)), .int .u64 (peek s.3 (cutI x.10 12 9)), .bool (inB s.3 (cutI x.10 12 9))]), some (.ints (some .u64) s.3)])))))))) (.ite (ieq x.9 6) (.pre (List.length s.3 = List.length s.3) (.pre True (.pre True (.pre ((List.length s.3 = List.length s.3 ∧ (0 : Int) ≤ s.4 ∧ s.4 ≤ (4611686018427387904 : Int)) ∧ True) (.ret (.bool false) [some (.cells [.int .i64 t, .int .i64 n, .int .i64 x.1, .int .i64 x.2, .int .i64 x.3, .int .i64 x.4, .int .i64 x.5, .int .i64 x.6, .bool x.7, .int .i64 x.8, .int .i64 7, .int .u64 x.10, .int .u64 x.11]), some (.cells [.int .i64 s.1, .int .i64 s.2, .slice 2 0 (List.length (bif casB s.3 (cutI x.10 12 9) x.11 then putI s.3 (cutI x.10 12 9) (bif bif fitI (cutI x.11 0 10) 10 then bif fitI (cutI x.11 10 9) 9 then bif fitI 0 5 then fitI (W (↑(BitVec.toNat (BitVec.ofInt (IntKind.bits .i64) (W (cutI x.11 25 18 + 1)) &&& BitVec.ofInt (IntKind.bits .i64) 262143)) : Int)) 18 else false else false else false then putV (cutI x.11 0 10) (cutI x.11 10 9) (ieq (cutI x.11 19 1) 1) 0 (W (↑(BitVec.toNat (BitVec.ofInt (IntKind.bits .i64) (W (cutI x.11 25 18 + 1)) &&& BitVec.ofInt (IntKind.bits .i64) 262143)) : Int)) else 0) else s.3)) 1, .int .i64 (s.4 + 1), .int .i64 3, .int .i64 (cutI x.10 12 9), .int .u64 (peek s.3 (cutI x.10 12 9)), .int .u64 (bif inB s.3 (cutI x.10 12 9) then bif bif fitI (cutI x.11 0 10) 10 then bif fitI (cutI x.11 10 9) 9 then bif fitI 0 5 then fitI (W (↑(BitVec.toNat (BitVec.ofInt (IntKind.bits .i64) (W (cutI x.11 25 18 + 1)) &&& BitVec.ofInt (IntKind.bits .i64) 262143)) : Int)) 18 else false else false else false then putV (cutI x.11 0 10) (cutI x.11 10 9) (ieq (cutI x.11 19 1) 1) 0 (W (↑(BitVec.toNat (BitVec.ofInt (IntKind.bits .i64) (W (cutI x.11 25 18 + 1)) &&& BitVec.ofInt (IntKind.bits .i64) 262143)) : Int)) else 0 else 0), .bool (casB s.3 (cutI x.10 12 9) x.11)]), some (.ints (some .u64) (bif casB s.3 (cutI x.10 12 9) x.11 then putI s.3 (cutI x.10 12 9) (bif bif fitI (cutI x.11 0 10) 10 then bif fitI (cutI x.11 10 9) 9 then bif fitI 0 5 then fitI (W (↑(BitVec.toNat (BitVec.ofInt (IntKind.bits .i64) (W (cutI x.11 25 18 + 1)) &&& BitVec.ofInt (IntKind.bits .i64) 262143)) : Int)) 18 else false else false else false then putV (cutI x.11 0 10) (cutI x.11 10 9) (ieq (cutI x.11 19 1) 1) 0 (W (↑(BitVec.toNat (BitVec.ofInt (IntKind.bits .i64) (W (cutI x.11 25 18 + 1)) &&& BitVec.ofInt (IntKind.bits .i64) 262143)) : Int)) else 0) else s.3))]))))) (.ite (ieq x.9 7) (.pre True (.pre (List.length s.3 = List.length s.3) (.pre True (.pre ((((0 : Int) ≤ t ∧ t ≤ (100000 : Int)) ∧ ((0 : Int) ≤ n ∧ n ≤ (100000 : Int)) ∧ (-1099511627776 : Int) ≤ x.3 ∧ x.3 ≤ (1099511627776 : Int)) ∧ True) (.pre ((List.length s.3 = List.length s.3 ∧ (0 : Int) ≤ s.4 ∧ s.4 ≤ (4611686018427387904 : Int)) ∧ True) (.ret (.bool true) [some (.cells [.int .i64 t, .int .i64 n, .int .i64 x.1, .int .i64 x.2, .int .i64 x.3, .int .i64 x.4, .int .i64 x.5, .int .i64 x.6, .bool x.7, .int .i64 x.8, .int .i64 x.9, .int .u64 x.10, .int .u64 x.11]), some (.cells [.int .i64 s.1, .int .i64 s.2, .slice 2 0 (List.length (bif casB s.3 (2 * n + 5 + 2 * t + 3 * x.3 + 2) x.10 then putI s.3 (2 * n + 5 + 2 * t + 3 * x.3 + 2) (bif dOk (cutI x.10 0 12) 0 0 0 5 (cutI x.10 52 10) then dPutV (cutI x.10 0 12) 0 0 0 true 5 (cutI x.10 52 10) else 0) else s.3)) 1, .int .i64 (s.4 + 1), .int .i64 3, .int .i64 (2 * n + 5 + 2 * t + 3 * x.3 + 2), .int .u64 (peek s.3 (2 * n + 5 + 2 * t + 3 * x.3 + 2)), .int .u64 (bif inB s.3 (2 * n + 5 + 2 * t + 3 * x.3 + 2) then bif dOk (cutI x.10 0 12) 0 0 0 5 (cutI x.10 52 10) then dPutV (cutI x.10 0 12) 0 0 0 true 5 (cutI x.10 52 10) else 0 else 0), .bool (casB s.3 (2 * n + 5 + 2 * t + 3 * x.3 + 2) x.10)]), some (.ints (some .u64) (bif casB s.3 (2 * n + 5 + 2 * t + 3 * x.3 + 2) x.10 then putI s.3 (2 * n + 5 + 2 * t + 3 * x.3 + 2) (bif dOk (cutI x.10 0 12) 0 0 0 5 (cutI x.10 52 10) then dPutV (cutI x.10 0 12) 0 0 0 true 5 (cutI x.10 52 10) else 0) else s.3))])))))) (.ite (ieq x.9 8) (.pre ((0 : Int) ≤ cutI x.10 0 12 ∧ cutI x.10 0 (12 : Int) ≤ (1000000 : Int)) (.pre (List.length s.3 = List.length s.3 ∧ True ∧ ((((0 : Int) ≤ t ∧ t ≤ (100000 : Int)) ∧ ((0 : Int) ≤ n ∧ n ≤ (100000 : Int)) ∧ (-1099511627776 : Int) ≤ x.3 ∧ x.3 ≤ (1099511627776 : Int)) ∧ True) ∧ ((List.length s.3 = List.length s.3 ∧ (0 : Int) ≤ s.4 ∧ s.4 ≤ (4611686018427387904 : Int)) ∧ True) ∧ True) (.ite (!casB s.3 (2 * n + 5 + 2 * t + 3 * x.3 + 2) x.10) (.ret (.bool true) [some (.cells [.int .i64 t, .int .i64 n, .int .i64 x.1, .int .i64 x.2, .int .i64 x.3, .int .i64 x.4, .int .i64 x.5, .int .i64 x.6, .bool x.7, .int .i64 x.8, .int .i64 9, .int .u64 x.10, .int .u64 x.11]), some (.cells [.int .i64 s.1, .int .i64 s.2, .slice 2 0 (List.length (bif casB s.3 (2 * n + 5 + 2 * t + 3 * x.3 + 2) x.10 then putI s.3 (2 * n + 5 + 2 * t + 3 * x.3 + 2) (bif dOk (attI (cutI x.10 0 12)) 0 0 0 1 0 then dPutV (attI (cutI x.10 0 12)) 0 0 0 false 1 0 else 0) else s.3)) 1, .int .i64 (s.4 + 1), .int .i64 3, .int .i64 (2 * n + 5 + 2 * t + 3 * x.3 + 2), .int .u64 (peek s.3 (2 * n + 5 + 2 * t + 3 * x.3 + 2)), .int .u64 (bif inB s.3 (2 * n + 5 + 2 * t + 3 * x.3 + 2) then bif dOk (attI (cutI x.10 0 12)) 0 0 0 1 0 then dPutV (attI (cutI x.10 0 12)) 0 0 0 false 1 0 else 0 else 0), .bool (casB s.3 (2 * n + 5 + 2 * t + 3 * x.3 + 2) x.10)]), some (.ints (some .u64) (bif casB s.3 (2 * n + 5 + 2 * t + 3 * x.3 + 2) x.10 then putI s.3 (2 * n + 5 + 2 * t + 3 * x.3 + 2) (bif dOk (attI (cutI x.10 0 12)) 0 0 0 1 0 then dPutV (attI (cutI x.10 0 12)) 0 0 0 false 1 0 else 0) else s.3))]) (.pre True (.ite (!linksB x.5) (.ret (.bool true) [some (.cells [.int .i64 t, .int .i64 n, .int .i64 x.1, .int .i64 x.2, .int .i64 x.3, .int .i64 x.4, .int .i64 x.5, .int .i64 x.6, .bool x.7, .int .i64 x.8, .int .i64 9, .int .u64 x.10, .int .u64 x.11]), some (.cells [.int .i64 s.1, .int .i64 s.2, .slice 2 0 (List.length (bif casB s.3 (2 * n + 5 + 2 * t + 3 * x.3 + 2) x.10 then putI s.3 (2 * n + 5 + 2 * t + 3 * x.3 + 2) (bif dOk (attI (cutI x.10 0 12)) 0 0 0 1 0 then dPutV (attI (cutI x.10 0 12)) 0 0 0 false 1 0 else 0) else s.3)) 1, .int .i64 (s.4 + 1), .int .i64 3, .int .i64 (2 * n + 5 + 2 * t + 3 * x.3 + 2), .int .u64 (peek s.3 (2 * n + 5 + 2 * t + 3 * x.3 + 2)), .int .u64 (bif inB s.3 (2 * n + 5 + 2 * t + 3 * x.3 + 2) then bif dOk (attI (cutI x.10 0 12)) 0 0 0 1 0 then dPutV (attI (cutI x.10 0 12)) 0 0 0 false 1 0 else 0 else 0), .bool (casB s.3 (2 * n + 5 + 2 * t + 3 * x.3 + 2) x.10)]), some (.ints (some .u64) (bif casB s.3 (2 * n + 5 + 2 * t + 3 * x.3 + 2) x.10 then putI s.3 (2 * n + 5 + 2 * t + 3 * x.3 + 2) (bif dOk (attI (cutI x.10 0 12)) 0 0 0 1 0 then dPutV (attI (cutI x.10 0 12)) 0 0 0 false 1 0 else 0) else s.3))]) (.pre (True ∧ True) (.ret (.bool !nodeB n (cutI x.10 39 9)) [some (.cells [.int .i64 t, .int .i64 n, .int .i64 x.1, .int .i64 x.2, .int .i64 x.3, .int .i64 x.4, .int .i64 x.5, .int .i64 x.6, .bool x.7, .int .i64 x.8, .int .i64 9, .int .u64 x.10, .int .u64 x.11]), some (.cells [.int .i64 s.1, .int .i64 s.2, .slice 2 0 (List.length (bif casB s.3 (2 * n + 5 + 2 * t + 3 * x.3 + 2) x.10 then putI s.3 (2 * n + 5 + 2 * t + 3 * x.3 + 2) (bif dOk (attI (cutI x.10 0 12)) 0 0 0 1 0 then dPutV (attI (cutI x.10 0 12)) 0 0 0 false 1 0 else 0) else s.3)) 1, .int .i64 (s.4 + 1), .int .i64 3, .int .i64 (2 * n + 5 + 2 * t + 3 * x.3 + 2), .int .u64 (peek s.3 (2 * n + 5 + 2 * t + 3 * x.3 + 2)), .int .u64 (bif inB s.3 (2 * n + 5 + 2 * t + 3 * x.3 + 2) then bif dOk (attI (cutI x.10 0 12)) 0 0 0 1 0 then dPutV (attI (cutI x.10 0 12)) 0 0 0 false 1 0 else 0 else 0), .bool (casB s.3 (2 * n + 5 + 2 * t + 3 * x.3 + 2) x.10)]), some (.ints (some .u64) (bif casB s.3 (2 * n + 5 + 2 * t + 3 * x.3 + 2) x.10 then putI s.3 (2 * n + 5 + 2 * t + 3 * x.3 + 2) (bif dOk (attI (cutI x.10 0 12)) 0 0 0 1 0 then dPutV (attI (cutI x.10 0 12)) 0 0 0 false 1 0 else 0) else s.3))]))))))) (.pre ((((0 : Int) ≤ t ∧ t ≤ (100000 : Int)) ∧ ((0 : Int) ≤ n ∧ n ≤ (100000 : Int)) ∧ (-1099511627776 : Int) ≤ cutI x.10 39 9 ∧ cutI x.10 39 (9 : Int) ≤ (1099511627776 : Int)) ∧ True) (.pre ((List.length s.3 = List.length s.3 ∧ (0 : Int) ≤ s.4 ∧ s.4 ≤ (4611686018427387904 : Int)) ∧ True) (.ret (.bool true) [some (.cells [.int .i64 t, .int .i64 n, .int .i64 x.1, .int .i64 (cutI x.10 39 9), .int .i64 x.3, .int .i64 x.4, .int .i64 x.5, .int .i64 x.6, .bool x.7, .int .i64 x.8, .int .i64 x.9, .int .u64 x.10, .int .u64 x.11]), some (.cells [.int .i64 s.1, .int .i64 s.2, .slice 2 0 (List.length (putI s.3 (n + 4 + cutI x.10 39 9) (WU (peek s.3 (n + 4 + cutI x.10 39 9) + 1)))) 1, .int .i64 (s.4 + 1), .int .i64 4, .int .i64 (n + 4 + cutI x.10 39 9), .int .u64 (peek s.3 (n + 4 + cutI x.10 39 9)), .int .u64 (bif inB s.3 (n + 4 + cutI x.10 39 9) then WU (peek s.3 (n + 4 + cutI x.10 39 9) + 1) else 0), .bool (inB s.3 (n + 4 + cutI x.10 39 9))]), some (.ints (some .u64) (putI s.3 (n + 4 + cutI x.10 39 9) (WU (peek s.3 (n + 4 + cutI x.10 39 9) + 1))))])))))))))))))
theorem xst_sum (t n : Int) (x : XE) (s : MS) (K : AVal → Heap Ob → Prop) (h : (xstO t n x s).run K) : CallOk (obI tbl) Try.prog 22 [.ptr 0 0, .ptr 1 0] (xH t n x s) K := by
  refine CallOk.trim (callOk_of (E := EX3) Try.checked.mixed (L := LL) (n := 10) (of_nf (q := (xstO t n x s).run K) (by kernel_rfl) h))
def xstS : Spec Ob := fun args h => match args, h with
  | [.ptr 0 0, .ptr 1 0], [some (.cells [.int .i64 t, .int .i64 n, .int .i64 pop, .int .i64 gave, .int .i64 u, .int .i64 sh, .int .i64 kd, .int .i64 ky, .bool only, .int .i64 att, .int .i64 at', .int .u64 found, .int .u64 word]), e1, e2] => (match memL 2 [e1, e2] with
    | some (l, s) => some (.pre (l = s.xs.length) (xstO t n ⟨pop, gave, u, sh, kd, ky, only, att, at', found, word⟩ s))
    | none => none)
  | _, _ => none
theorem xst_ok : Spec.ok (obI tbl) Try.prog 22 xstS := by
  intro args h o ho K hK
  unfold xstS at ho
  split at ho
  case h_2 => cases ho
  split at ho
  case h_2 => cases ho
  rename_i hm
  simp only [Option.some.injEq] at ho; subst ho
  obtain ⟨hl, hK⟩ := hK
  have hh := memL_eq hm hl
  simp only [List.cons.injEq, and_true] at hh
  obtain ⟨rfl, rfl⟩ := hh
  exact xst_sum _ _ _ _ K hK
noncomputable def EX4 := EX3.addS 22 xstS xst_ok
end Go.Sh.XX

namespace Go.Sh.XX
open Go Go.Proofs
variable [Con]
structure eqX (x y : XE) : Prop where
  h : x = y
structure eqM (x y : MS) : Prop where
  h : x = y
structure eqH (x y : Heap Ob) : Prop where
  h : x = y
def rx0 : XE := ⟨0, 0, 0, 1, 2, 7, false, 0, 0, 0, 0⟩
def rs0 : MS := ⟨4, 12, [0, 0, 167781383, 0, 0, 0, 0, 0, 0, 0, 0, 0, 0, 0, 0, 0, 0, 0, 0, 0, 0, 0, 0, 0, 0, 0, 0, 0, 0, 0, 0, 0, 0, 0, 0, 0, 0, 0, 0, 1127549184778243, 0, 0, 0, 0, 0, 0, 0, 0, 0, 0], 2, 2, 39, 0, 1127549184778243, true⟩
def ry0 : XE := ⟨0, 0, 0, 1, 2, 7, false, 0, 1, 1127549184778243, 0⟩
def rx1 : XE := ⟨0, 0, 0, 1, 2, 7, false, 0, 1, 1127549184778243, 0⟩
def rs1 : MS := ⟨4, 12, [0, 0, 167781383, 0, 0, 0, 0, 0, 0, 0, 0, 0, 0, 0, 0, 0, 0, 0, 0, 0, 0, 0, 0, 0, 0, 0, 0, 0, 0, 0, 0, 0, 0, 0, 0, 0, 0, 0, 0, 1127549184778243, 0, 0, 0, 0, 0, 0, 0, 0, 0, 0], 3, 1, 39, 1127549184778243, 1127549184778243, true⟩
def ry1 : XE := ⟨0, 0, 0, 1, 2, 7, false, 0, 2, 1127549184778243, 167781383⟩
def rx2 : XE := ⟨0, 0, 0, 1, 2, 7, false, 0, 2, 1127549184778243, 167781383⟩
def rs2 : MS := ⟨4, 12, [0, 0, 167781383, 0, 0, 0, 0, 0, 0, 0, 0, 0, 0, 0, 0, 0, 0, 0, 0, 0, 0, 0, 0, 0, 0, 0, 0, 0, 0, 0, 0, 0, 0, 0, 0, 0, 0, 0, 0, 1127549184778243, 0, 0, 0, 0, 0, 0, 0, 0, 0, 0], 4, 1, 2, 167781383, 167781383, true⟩
def ry2 : XE := ⟨0, 0, 0, 1, 2, 7, false, 0, 2, 1127549184778243, 167781383⟩
def rx3 : XE := ⟨0, 0, 0, 1, 2, 7, false, 0, 0, 0, 0⟩
def rs3 : MS := ⟨4, 12, [0, 0, 168823815, 0, 0, 0, 0, 0, 0, 0, 0, 0, 0, 0, 0, 0, 0, 0, 0, 0, 0, 0, 0, 0, 0, 0, 0, 0, 0, 0, 0, 0, 0, 0, 0, 0, 0, 0, 0, 1127549184778243, 0, 0, 0, 0, 0, 0, 0, 0, 0, 0], 5, 3, 2, 167781383, 168823815, true⟩
def ry3 : XE := ⟨0, 0, 0, 1, 2, 7, false, 0, 1, 1127549184778243, 0⟩
def rx4 : XE := ⟨0, 0, 0, 1, 2, 7, false, 0, 1, 1127549184778243, 0⟩
def rs4 : MS := ⟨4, 12, [0, 0, 168823815, 0, 0, 0, 0, 0, 0, 0, 0, 0, 0, 0, 0, 0, 0, 0, 0, 0, 0, 0, 0, 0, 0, 0, 0, 0, 0, 0, 0, 0, 0, 0, 0, 0, 0, 0, 0, 1127549184778243, 0, 0, 0, 0, 0, 0, 0, 0, 0, 0], 6, 1, 39, 1127549184778243, 1127549184778243, true⟩
def ry4 : XE := ⟨0, 0, 0, 1, 2, 7, false, 0, 3, 1127549184778243, 168823815⟩
def rx5 : XE := ⟨0, 0, 0, 1, 2, 7, false, 0, 3, 1127549184778243, 168823815⟩
def rs5 : MS := ⟨4, 12, [0, 0, 168823815, 0, 0, 0, 0, 0, 0, 0, 0, 0, 0, 0, 0, 0, 0, 0, 0, 0, 0, 0, 0, 0, 0, 0, 0, 0, 0, 0, 0, 0, 0, 0, 0, 0, 0, 0, 0, 1127549184778243, 0, 0, 0, 0, 0, 0, 0, 0, 0, 0], 7, 1, 2, 168823815, 168823815, true⟩
def ry5 : XE := ⟨0, 0, 0, 1, 2, 7, false, 0, 3, 1127549184778243, 168823815⟩
def rx6 : XE := ⟨0, 0, 0, 1, 2, 7, false, 0, 0, 0, 0⟩
def rs6 : MS := ⟨4, 12, [0, 0, 168823815, 0, 0, 0, 0, 0, 0, 0, 0, 0, 0, 0, 0, 0, 0, 0, 0, 0, 0, 0, 0, 0, 0, 0, 0, 0, 0, 0, 0, 0, 0, 0, 0, 0, 0, 0, 0, 1690499138199555, 0, 0, 0, 0, 0, 0, 0, 0, 0, 0], 8, 3, 39, 1127549184778243, 1690499138199555, true⟩
def ry6 : XE := ⟨0, 0, 0, 1, 2, 7, false, 0, 5, 1690499138199555, 0⟩
def rx7 : XE := ⟨0, 0, 0, 1, 2, 7, false, 0, 5, 1690499138199555, 0⟩
def rs7 : MS := ⟨4, 12, [0, 0, 168823815, 0, 0, 0, 0, 0, 0, 0, 0, 0, 0, 0, 0, 0, 0, 0, 0, 0, 0, 0, 0, 0, 0, 0, 0, 0, 0, 0, 0, 0, 0, 0, 0, 0, 0, 0, 0, 1690499138199555, 0, 0, 0, 0, 0, 0, 0, 0, 0, 0], 9, 1, 39, 1690499138199555, 1690499138199555, true⟩
def ry7 : XE := ⟨0, 0, 0, 1, 2, 7, false, 0, 6, 1690499138199555, 168823815⟩
def rx8 : XE := ⟨0, 0, 0, 1, 2, 7, false, 0, 6, 1690499138199555, 168823815⟩
def rs8 : MS := ⟨4, 12, [0, 0, 168823815, 0, 0, 0, 0, 0, 0, 0, 0, 0, 0, 0, 0, 0, 0, 0, 0, 0, 0, 0, 0, 0, 0, 0, 0, 0, 0, 0, 0, 0, 0, 0, 0, 0, 0, 0, 0, 1690499138199555, 0, 0, 0, 0, 0, 0, 0, 0, 0, 0], 10, 1, 2, 168823815, 168823815, true⟩
def ry8 : XE := ⟨0, 0, 0, 1, 2, 7, false, 0, 7, 1690499138199555, 168823815⟩
def rx9 : XE := ⟨0, 0, 0, 1, 2, 7, false, 0, 7, 1690499138199555, 168823815⟩
def rs9 : MS := ⟨4, 12, [0, 0, 201329671, 0, 0, 0, 0, 0, 0, 0, 0, 0, 0, 0, 0, 0, 0, 0, 0, 0, 0, 0, 0, 0, 0, 0, 0, 0, 0, 0, 0, 0, 0, 0, 0, 0, 0, 0, 0, 1690499138199555, 0, 0, 0, 0, 0, 0, 0, 0, 0, 0], 11, 3, 2, 168823815, 201329671, true⟩
def ry9 : XE := ⟨0, 0, 0, 1, 2, 7, false, 0, 7, 1690499138199555, 168823815⟩
def rs10 : MS := ⟨4, 12, [0, 0, 201329671, 0, 0, 0, 0, 0, 0, 0, 0, 0, 0, 0, 0, 0, 0, 0, 0, 0, 0, 0, 0, 0, 0, 0, 0, 0, 0, 0, 0, 0, 0, 0, 0, 0, 0, 0, 0, 3096224743817219, 0, 0, 0, 0, 0, 0, 0, 0, 0, 0], 12, 3, 39, 1690499138199555, 3096224743817219, true⟩
theorem rst0 (K : AVal → Heap Ob → Prop) (hK : K (.bool false) (xH 4 12 ry0 rs1)) : (xstO 4 12 rx0 rs0).run K := by
  with_unfolding_all repeat' (first | exact hK | trivial | decide | apply And.intro)
theorem rst1 (K : AVal → Heap Ob → Prop) (hK : K (.bool false) (xH 4 12 ry1 rs2)) : (xstO 4 12 rx1 rs1).run K := by
  with_unfolding_all repeat' (first | exact hK | trivial | decide | apply And.intro)
theorem rst2 (K : AVal → Heap Ob → Prop) (hK : K (.bool true) (xH 4 12 ry2 rs3)) : (xstO 4 12 rx2 rs2).run K := by
  with_unfolding_all repeat' (first | exact hK | trivial | decide | apply And.intro)
theorem rst3 (K : AVal → Heap Ob → Prop) (hK : K (.bool false) (xH 4 12 ry3 rs4)) : (xstO 4 12 rx3 rs3).run K := by
  with_unfolding_all repeat' (first | exact hK | trivial | decide | apply And.intro)
theorem rst4 (K : AVal → Heap Ob → Prop) (hK : K (.bool false) (xH 4 12 ry4 rs5)) : (xstO 4 12 rx4 rs4).run K := by
  with_unfolding_all repeat' (first | exact hK | trivial | decide | apply And.intro)
theorem rst5 (K : AVal → Heap Ob → Prop) (hK : K (.bool true) (xH 4 12 ry5 rs6)) : (xstO 4 12 rx5 rs5).run K := by
  with_unfolding_all repeat' (first | exact hK | trivial | decide | apply And.intro)
theorem rst6 (K : AVal → Heap Ob → Prop) (hK : K (.bool false) (xH 4 12 ry6 rs7)) : (xstO 4 12 rx6 rs6).run K := by
  with_unfolding_all repeat' (first | exact hK | trivial | decide | apply And.intro)
theorem rst7 (K : AVal → Heap Ob → Prop) (hK : K (.bool false) (xH 4 12 ry7 rs8)) : (xstO 4 12 rx7 rs7).run K := by
  with_unfolding_all repeat' (first | exact hK | trivial | decide | apply And.intro)
theorem rst8 (K : AVal → Heap Ob → Prop) (hK : K (.bool false) (xH 4 12 ry8 rs9)) : (xstO 4 12 rx8 rs8).run K := by
  with_unfolding_all repeat' (first | exact hK | trivial | decide | apply And.intro)
theorem rst9 (K : AVal → Heap Ob → Prop) (hK : K (.bool true) (xH 4 12 ry9 rs10)) : (xstO 4 12 rx9 rs9).run K := by
  with_unfolding_all repeat' (first | exact hK | trivial | decide | apply And.intro)
def rtabO (t n : Int) (x : XE) (s : MS) (l : Nat) : Out Ob := cond (ieq s.c 2) (.pre (l = s.xs.length ∧ t = 4 ∧ n = 12 ∧ eqX x rx0 ∧ eqM s rs0) (.ret (.bool false) (xH 4 12 ry0 rs1))) (cond (ieq s.c 3) (.pre (l = s.xs.length ∧ t = 4 ∧ n = 12 ∧ eqX x rx1 ∧ eqM s rs1) (.ret (.bool false) (xH 4 12 ry1 rs2))) (cond (ieq s.c 4) (.pre (l = s.xs.length ∧ t = 4 ∧ n = 12 ∧ eqX x rx2 ∧ eqM s rs2) (.ret (.bool true) (xH 4 12 ry2 rs3))) (cond (ieq s.c 5) (.pre (l = s.xs.length ∧ t = 4 ∧ n = 12 ∧ eqX x rx3 ∧ eqM s rs3) (.ret (.bool false) (xH 4 12 ry3 rs4))) (cond (ieq s.c 6) (.pre (l = s.xs.length ∧ t = 4 ∧ n = 12 ∧ eqX x rx4 ∧ eqM s rs4) (.ret (.bool false) (xH 4 12 ry4 rs5))) (cond (ieq s.c 7) (.pre (l = s.xs.length ∧ t = 4 ∧ n = 12 ∧ eqX x rx5 ∧ eqM s rs5) (.ret (.bool true) (xH 4 12 ry5 rs6))) (cond (ieq s.c 8) (.pre (l = s.xs.length ∧ t = 4 ∧ n = 12 ∧ eqX x rx6 ∧ eqM s rs6) (.ret (.bool false) (xH 4 12 ry6 rs7))) (cond (ieq s.c 9) (.pre (l = s.xs.length ∧ t = 4 ∧ n = 12 ∧ eqX x rx7 ∧ eqM s rs7) (.ret (.bool false) (xH 4 12 ry7 rs8))) (cond (ieq s.c 10) (.pre (l = s.xs.length ∧ t = 4 ∧ n = 12 ∧ eqX x rx8 ∧ eqM s rs8) (.ret (.bool false) (xH 4 12 ry8 rs9))) (cond (ieq s.c 11) (.pre (l = s.xs.length ∧ t = 4 ∧ n = 12 ∧ eqX x rx9 ∧ eqM s rs9) (.ret (.bool true) (xH 4 12 ry9 rs10))) (.pre False (.ret (.bool false) [])))))))))))
theorem rtab_sum (t n : Int) (x : XE) (s : MS) (l : Nat) (K : AVal → Heap Ob → Prop) (h : (rtabO t n x s l).run K) : l = s.xs.length ∧ (xstO t n x s).run K := by
  unfold rtabO at h
  by_cases c0 : ieq s.c 2 = true
  · simp only [c0, cond_true] at h
    obtain ⟨⟨hl, rfl, rfl, ⟨rfl⟩, ⟨rfl⟩⟩, hK⟩ := h
    exact ⟨hl, rst0 K hK⟩
  simp only [Bool.not_eq_true] at c0
  simp only [c0, cond_false] at h
  by_cases c1 : ieq s.c 3 = true
  · simp only [c1, cond_true] at h
    obtain ⟨⟨hl, rfl, rfl, ⟨rfl⟩, ⟨rfl⟩⟩, hK⟩ := h
    exact ⟨hl, rst1 K hK⟩
  simp only [Bool.not_eq_true] at c1
  simp only [c1, cond_false] at h
  by_cases c2 : ieq s.c 4 = true
  · simp only [c2, cond_true] at h
    obtain ⟨⟨hl, rfl, rfl, ⟨rfl⟩, ⟨rfl⟩⟩, hK⟩ := h
    exact ⟨hl, rst2 K hK⟩
  simp only [Bool.not_eq_true] at c2
  simp only [c2, cond_false] at h
  by_cases c3 : ieq s.c 5 = true
  · simp only [c3, cond_true] at h
    obtain ⟨⟨hl, rfl, rfl, ⟨rfl⟩, ⟨rfl⟩⟩, hK⟩ := h
    exact ⟨hl, rst3 K hK⟩
  simp only [Bool.not_eq_true] at c3
  simp only [c3, cond_false] at h
  by_cases c4 : ieq s.c 6 = true
  · simp only [c4, cond_true] at h
    obtain ⟨⟨hl, rfl, rfl, ⟨rfl⟩, ⟨rfl⟩⟩, hK⟩ := h
    exact ⟨hl, rst4 K hK⟩
  simp only [Bool.not_eq_true] at c4
  simp only [c4, cond_false] at h
  by_cases c5 : ieq s.c 7 = true
  · simp only [c5, cond_true] at h
    obtain ⟨⟨hl, rfl, rfl, ⟨rfl⟩, ⟨rfl⟩⟩, hK⟩ := h
    exact ⟨hl, rst5 K hK⟩
  simp only [Bool.not_eq_true] at c5
  simp only [c5, cond_false] at h
  by_cases c6 : ieq s.c 8 = true
  · simp only [c6, cond_true] at h
    obtain ⟨⟨hl, rfl, rfl, ⟨rfl⟩, ⟨rfl⟩⟩, hK⟩ := h
    exact ⟨hl, rst6 K hK⟩
  simp only [Bool.not_eq_true] at c6
  simp only [c6, cond_false] at h
  by_cases c7 : ieq s.c 9 = true
  · simp only [c7, cond_true] at h
    obtain ⟨⟨hl, rfl, rfl, ⟨rfl⟩, ⟨rfl⟩⟩, hK⟩ := h
    exact ⟨hl, rst7 K hK⟩
  simp only [Bool.not_eq_true] at c7
  simp only [c7, cond_false] at h
  by_cases c8 : ieq s.c 10 = true
  · simp only [c8, cond_true] at h
    obtain ⟨⟨hl, rfl, rfl, ⟨rfl⟩, ⟨rfl⟩⟩, hK⟩ := h
    exact ⟨hl, rst8 K hK⟩
  simp only [Bool.not_eq_true] at c8
  simp only [c8, cond_false] at h
  by_cases c9 : ieq s.c 11 = true
  · simp only [c9, cond_true] at h
    obtain ⟨⟨hl, rfl, rfl, ⟨rfl⟩, ⟨rfl⟩⟩, hK⟩ := h
    exact ⟨hl, rst9 K hK⟩
  simp only [Bool.not_eq_true] at c9
  simp only [c9, cond_false] at h
  exact h.1.elim
def rtabS : Spec Ob := fun args h => match args, h with
  | [.ptr 0 0, .ptr 1 0], [some (.cells [.int .i64 t, .int .i64 n, .int .i64 pop, .int .i64 gave, .int .i64 u, .int .i64 sh, .int .i64 kd, .int .i64 ky, .bool only, .int .i64 att, .int .i64 at', .int .u64 found, .int .u64 word]), e1, e2] => (match memL 2 [e1, e2] with
    | some (l, s) => some (rtabO t n ⟨pop, gave, u, sh, kd, ky, only, att, at', found, word⟩ s l)
    | none => none)
  | _, _ => none
theorem rtab_ok : Spec.ok (obI tbl) Try.prog 22 rtabS := by
  intro args h o ho K hK
  unfold rtabS at ho
  split at ho
  case h_2 => cases ho
  split at ho
  case h_2 => cases ho
  rename_i hm
  simp only [Option.some.injEq] at ho; subst ho
  obtain ⟨hl, hK⟩ := rtab_sum _ _ _ _ _ K hK
  have hh := memL_eq hm hl
  simp only [List.cons.injEq, and_true] at hh
  obtain ⟨rfl, rfl⟩ := hh
  exact xst_sum _ _ _ _ K hK
noncomputable def EXR := EX3.addS 22 rtabS rtab_ok
end Go.Sh.XX

namespace Go.Sh.XX
open Go Go.Proofs
variable [Con]
def rh0 : Heap Ob := [memC 1 rs0, memX rs0, some (.cells [.ptr 3 0, .ptr 4 0, .ptr 5 0]), xC 4 12 rx0, xC 4 12 rx0, xC 4 12 rx0]
def rh1 : Heap Ob := [memC 1 rs10, memX rs10, some (.cells [.ptr 3 0, .ptr 4 0, .ptr 5 0]), xC 4 12 ry2, xC 4 12 ry5, xC 4 12 ry9]
def rndS : Spec Ob := fun args h => match args with
  | [.ptr 0 0, .int .i64 20, .slice 2 0 3 1] => some (.pre (eqH h rh0) (.ret (.tup [.int .i64 10, .raw (Value.slice none 0 0)]) rh1))
  | _ => none
theorem rnd_sum (K : AVal → Heap Ob → Prop) (hK : K (.tup [.int .i64 10, .raw (Value.slice none 0 0)]) rh1) : CallOk (obI tbl) Try.prog 40 [.ptr 0 0, .int .i64 20, .slice 2 0 3 1] rh0 K := by
  refine CallOk.trim (callOk_of (E := EXR) Try.checked.mixed (L := LL) (n := 10) (of_nf (q := ((0 : Int) ≤ (0 : Int) ∧ (0 : Int) < (↑3 : Int)) ∧ ((0 : Int) ≤ (0 : Int) ∧ (0 : Int) < (↑1 : Int)) ∧ (50 = 50 ∧ (4 : Int) = (4 : Int) ∧ (12 : Int) = (12 : Int) ∧ eqX { pop := 0, gave := 0, u := 0, sh := 1, kd := 2, ky := 7, only := false, att := 0, at' := 0, found := 0, word := 0 } rx0 ∧ eqM { t := 4, n := 12, xs := [0, 0, 167781383, 0, 0, 0, 0, 0, 0, 0, 0, 0, 0, 0, 0, 0, 0, 0, 0, 0, 0, 0, 0, 0, 0, 0, 0, 0, 0, 0, 0, 0, 0, 0, 0, 0, 0, 0, 0, 1127549184778243, 0, 0, 0, 0, 0, 0, 0, 0, 0, 0], c := 2, k := 2, a := 39, o := 0, w := 1127549184778243, ok := true } rs0) ∧ (50 = 50 ∧ (4 : Int) = (4 : Int) ∧ (12 : Int) = (12 : Int) ∧ eqX { pop := 0, gave := 0, u := 0, sh := 1, kd := 2, ky := 7, only := false, att := 0, at' := 1, found := 1127549184778243, word := 0 } rx1 ∧ eqM { t := 4, n := 12, xs := [0, 0, 167781383, 0, 0, 0, 0, 0, 0, 0, 0, 0, 0, 0, 0, 0, 0, 0, 0, 0, 0, 0, 0, 0, 0, 0, 0, 0, 0, 0, 0, 0, 0, 0, 0, 0, 0, 0, 0, 1127549184778243, 0, 0, 0, 0, 0, 0, 0, 0, 0, 0], c := 3, k := 1, a := 39, o := 1127549184778243, w := 1127549184778243, ok := true } rs1) ∧ (50 = 50 ∧ (4 : Int) = (4 : Int) ∧ (12 : Int) = (12 : Int) ∧ eqX { pop := 0, gave := 0, u := 0, sh := 1, kd := 2, ky := 7, only := false, att := 0, at' := 2, found := 1127549184778243, word := 167781383 } rx2 ∧ eqM { t := 4, n := 12, xs := [0, 0, 167781383, 0, 0, 0, 0, 0, 0, 0, 0, 0, 0, 0, 0, 0, 0, 0, 0, 0, 0, 0, 0, 0, 0, 0, 0, 0, 0, 0, 0, 0, 0, 0, 0, 0, 0, 0, 0, 1127549184778243, 0, 0, 0, 0, 0, 0, 0, 0, 0, 0], c := 4, k := 1, a := 2, o := 167781383, w := 167781383, ok := true } rs2) ∧ ((0 : Int) ≤ W (0 + 1) ∧ W (0 + 1) < (↑3 : Int)) ∧ ((0 : Int) ≤ (0 : Int) ∧ (0 : Int) < (↑1 : Int)) ∧ (50 = 50 ∧ (4 : Int) = (4 : Int) ∧ (12 : Int) = (12 : Int) ∧ eqX { pop := 0, gave := 0, u := 0, sh := 1, kd := 2, ky := 7, only := false, att := 0, at' := 0, found := 0, word := 0 } rx3 ∧ eqM { t := 4, n := 12, xs := [0, 0, 168823815, 0, 0, 0, 0, 0, 0, 0, 0, 0, 0, 0, 0, 0, 0, 0, 0, 0, 0, 0, 0, 0, 0, 0, 0, 0, 0, 0, 0, 0, 0, 0, 0, 0, 0, 0, 0, 1127549184778243, 0, 0, 0, 0, 0, 0, 0, 0, 0, 0], c := 5, k := 3, a := 2, o := 167781383, w := 168823815, ok := true } rs3) ∧ (50 = 50 ∧ (4 : Int) = (4 : Int) ∧ (12 : Int) = (12 : Int) ∧ eqX { pop := 0, gave := 0, u := 0, sh := 1, kd := 2, ky := 7, only := false, att := 0, at' := 1, found := 1127549184778243, word := 0 } rx4 ∧ eqM { t := 4, n := 12, xs := [0, 0, 168823815, 0, 0, 0, 0, 0, 0, 0, 0, 0, 0, 0, 0, 0, 0, 0, 0, 0, 0, 0, 0, 0, 0, 0, 0, 0, 0, 0, 0, 0, 0, 0, 0, 0, 0, 0, 0, 1127549184778243, 0, 0, 0, 0, 0, 0, 0, 0, 0, 0], c := 6, k := 1, a := 39, o := 1127549184778243, w := 1127549184778243, ok := true } rs4) ∧ (50 = 50 ∧ (4 : Int) = (4 : Int) ∧ (12 : Int) = (12 : Int) ∧ eqX { pop := 0, gave := 0, u := 0, sh := 1, kd := 2, ky := 7, only := false, att := 0, at' := 3, found := 1127549184778243, word := 168823815 } rx5 ∧ eqM { t := 4, n := 12, xs := [0, 0, 168823815, 0, 0, 0, 0, 0, 0, 0, 0, 0, 0, 0, 0, 0, 0, 0, 0, 0, 0, 0, 0, 0, 0, 0, 0, 0, 0, 0, 0, 0, 0, 0, 0, 0, 0, 0, 0, 1127549184778243, 0, 0, 0, 0, 0, 0, 0, 0, 0, 0], c := 7, k := 1, a := 2, o := 168823815, w := 168823815, ok := true } rs5) ∧ ((0 : Int) ≤ W (W (0 + 1) + 1) ∧ W (W (0 + 1) + 1) < (↑3 : Int)) ∧ ((0 : Int) ≤ (0 : Int) ∧ (0 : Int) < (↑1 : Int)) ∧ (50 = 50 ∧ (4 : Int) = (4 : Int) ∧ (12 : Int) = (12 : Int) ∧ eqX { pop := 0, gave := 0, u := 0, sh := 1, kd := 2, ky := 7, only := false, att := 0, at' := 0, found := 0, word := 0 } rx6 ∧ eqM { t := 4, n := 12, xs := [0, 0, 168823815, 0, 0, 0, 0, 0, 0, 0, 0, 0, 0, 0, 0, 0, 0, 0, 0, 0, 0, 0, 0, 0, 0, 0, 0, 0, 0, 0, 0, 0, 0, 0, 0, 0, 0, 0, 0, 1690499138199555, 0, 0, 0, 0, 0, 0, 0, 0, 0, 0], c := 8, k := 3, a := 39, o := 1127549184778243, w := 1690499138199555, ok := true } rs6) ∧ (50 = 50 ∧ (4 : Int) = (4 : Int) ∧ (12 : Int) = (12 : Int) ∧ eqX { pop := 0, gave := 0, u := 0, sh := 1, kd := 2, ky := 7, only := false, att := 0, at' := 5, found := 1690499138199555, word := 0 } rx7 ∧ eqM { t := 4, n := 12, xs := [0, 0, 168823815, 0, 0, 0, 0, 0, 0, 0, 0, 0, 0, 0, 0, 0, 0, 0, 0, 0, 0, 0, 0, 0, 0, 0, 0, 0, 0, 0, 0, 0, 0, 0, 0, 0, 0, 0, 0, 1690499138199555, 0, 0, 0, 0, 0, 0, 0, 0, 0, 0], c := 9, k := 1, a := 39, o := 1690499138199555, w := 1690499138199555, ok := true } rs7) ∧ (50 = 50 ∧ (4 : Int) = (4 : Int) ∧ (12 : Int) = (12 : Int) ∧ eqX { pop := 0, gave := 0, u := 0, sh := 1, kd := 2, ky := 7, only := false, att := 0, at' := 6, found := 1690499138199555, word := 168823815 } rx8 ∧ eqM { t := 4, n := 12, xs := [0, 0, 168823815, 0, 0, 0, 0, 0, 0, 0, 0, 0, 0, 0, 0, 0, 0, 0, 0, 0, 0, 0, 0, 0, 0, 0, 0, 0, 0, 0, 0, 0, 0, 0, 0, 0, 0, 0, 0, 1690499138199555, 0, 0, 0, 0, 0, 0, 0, 0, 0, 0], c := 10, k := 1, a := 2, o := 168823815, w := 168823815, ok := true } rs8) ∧ (50 = 50 ∧ (4 : Int) = (4 : Int) ∧ (12 : Int) = (12 : Int) ∧ eqX { pop := 0, gave := 0, u := 0, sh := 1, kd := 2, ky := 7, only := false, att := 0, at' := 7, found := 1690499138199555, word := 168823815 } rx9 ∧ eqM { t := 4, n := 12, xs := [0, 0, 201329671, 0, 0, 0, 0, 0, 0, 0, 0, 0, 0, 0, 0, 0, 0, 0, 0, 0, 0, 0, 0, 0, 0, 0, 0, 0, 0, 0, 0, 0, 0, 0, 0, 0, 0, 0, 0, 1690499138199555, 0, 0, 0, 0, 0, 0, 0, 0, 0, 0], c := 11, k := 3, a := 2, o := 168823815, w := 201329671, ok := true } rs9) ∧ K (.tup [.int .i64 (W (W (W (0 + W (W (W (0 + 1) + 1) + 1)) + W (W (W (0 + 1) + 1) + 1)) + W (W (W (W (0 + 1) + 1) + 1) + 1))), .raw (Value.slice none 0 0)]) [some (.cells [.int .i64 4, .int .i64 12, .slice 1 0 50 1, .int .i64 12, .int .i64 3, .int .i64 39, .int .u64 1690499138199555, .int .u64 3096224743817219, .bool true]), some (.ints (some .u64) [0, 0, 201329671, 0, 0, 0, 0, 0, 0, 0, 0, 0, 0, 0, 0, 0, 0, 0, 0, 0, 0, 0, 0, 0, 0, 0, 0, 0, 0, 0, 0, 0, 0, 0, 0, 0, 0, 0, 0, 3096224743817219, 0, 0, 0, 0, 0, 0, 0, 0, 0, 0]), some (.cells [.ptr 3 0, .ptr 4 0, .ptr 5 0]), some (.cells [.int .i64 4, .int .i64 12, .int .i64 0, .int .i64 0, .int .i64 0, .int .i64 1, .int .i64 2, .int .i64 7, .bool false, .int .i64 0, .int .i64 2, .int .u64 1127549184778243, .int .u64 167781383]), some (.cells [.int .i64 4, .int .i64 12, .int .i64 0, .int .i64 0, .int .i64 0, .int .i64 1, .int .i64 2, .int .i64 7, .bool false, .int .i64 0, .int .i64 3, .int .u64 1127549184778243, .int .u64 168823815]), some (.cells [.int .i64 4, .int .i64 12, .int .i64 0, .int .i64 0, .int .i64 0, .int .i64 1, .int .i64 2, .int .i64 7, .bool false, .int .i64 0, .int .i64 7, .int .u64 1690499138199555, .int .u64 168823815])]) (by kernel_rfl) ?_))
  with_unfolding_all repeat' (first | exact hK | exact ⟨rfl⟩ | trivial | apply And.intro)
theorem rnd_ok : Spec.ok (obI tbl) Try.prog 40 rndS := by
  intro args h o ho K hK
  unfold rndS at ho
  split at ho
  case h_2 => cases ho
  simp only [Option.some.injEq] at ho; subst ho
  obtain ⟨⟨rfl⟩, hK⟩ := hK
  exact rnd_sum K hK
noncomputable def EXQ := EXR.addS 40 rndS rnd_ok
end Go.Sh.XX

namespace Go.Sh.XX
open Go Go.Proofs
variable [Con]
def awake16S : Spec Ob := fun args h => match args, h with
  | [], [] => some (.pre True (.ret (.bool true) ([])))
  | _, _ => none
theorem awake16_ok : Spec.ok (obI tbl) Try.prog 16 awake16S := by
  intro args h o ho K hK
  unfold awake16S at ho
  split at ho
  case h_2 => cases ho
  simp only [Option.some.injEq] at ho; subst ho
  obtain ⟨hp, hK⟩ := hK
  have hK : K (.bool true) ([]) := hK
  refine CallOk.trim (callOk_of (E := EXQ) Try.checked.mixed (L := LL) (n := 10) (of_nf (q := True ∧ (((0 : Int) ≤ (4 : Int) ∧ (4 : Int) ≤ (100000 : Int)) ∧ (0 : Int) ≤ (12 : Int) ∧ (12 : Int) ≤ (100000 : Int)) ∧ ((((0 : Int) ≤ (4 : Int) ∧ (4 : Int) ≤ (100000 : Int)) ∧ (0 : Int) ≤ (12 : Int) ∧ (12 : Int) ≤ (100000 : Int)) ∧ True) ∧ ((0 : Int) ≤ (2 : Int) * 12 + 5 * 4 + 6 ∧ 2 * 12 + 5 * 4 + (6 : Int) = (2 : Int) * 12 + 5 * 4 + 6 ∧ 2 * 12 + 5 * 4 + (6 : Int) ≤ (4294967296 : Int)) ∧ (4 : Int) ≠ (0 : Int) ∧ (12 : Int) ≠ (0 : Int) ∧ (13 : Int) ≠ (0 : Int) ∧ (3 : Int) ≠ (0 : Int) ∧ (((0 : Int) ≤ (7 : Int) ∧ (7 : Int) < (1024 : Int)) ∧ ((0 : Int) ≤ (9 : Int) ∧ (9 : Int) < (512 : Int)) ∧ ((0 : Int) ≤ (0 : Int) ∧ (0 : Int) < (32 : Int)) ∧ (0 : Int) ≤ W 5 ∧ W (5 : Int) < (262144 : Int)) ∧ (50 = 50 ∧ (0 : Int) ≤ (0 : Int) ∧ (0 : Int) ≤ (4611686018427387904 : Int)) ∧ ((((0 : Int) ≤ (4 : Int) ∧ (4 : Int) ≤ (100000 : Int)) ∧ ((0 : Int) ≤ (12 : Int) ∧ (12 : Int) ≤ (100000 : Int)) ∧ (-1099511627776 : Int) ≤ Int.tmod (W 0) 4 ∧ Int.tmod (W 0) (4 : Int) ≤ (1099511627776 : Int)) ∧ True) ∧ (((0 : Int) ≤ (3 : Int) ∧ (3 : Int) ≤ (1000000 : Int)) ∧ ((0 : Int) ≤ W (1 + Int.tmod (W 1) 12) ∧ W (1 + Int.tmod (W 1) 12) ≤ (1000000 : Int)) ∧ ((0 : Int) ≤ W 5 ∧ W (5 : Int) ≤ (1000000 : Int)) ∧ ((0 : Int) ≤ Int.tmod (W 3) 13 ∧ Int.tmod (W 3) (13 : Int) ≤ (1000000 : Int)) ∧ ((0 : Int) ≤ (2 : Int) ∧ (2 : Int) ≤ (1000000 : Int)) ∧ (0 : Int) ≤ W 0 ∧ W (0 : Int) ≤ (1000000 : Int)) ∧ ((50 = 50 ∧ (0 : Int) ≤ (0 : Int) + 1 ∧ 0 + (1 : Int) ≤ (4611686018427387904 : Int)) ∧ True) ∧ (3 : Int) ≠ (0 : Int) ∧ (eqH [some (.cells [.int .i64 4, .int .i64 12, .slice 1 0 50 1, .int .i64 (0 + 1 + 1), .int .i64 2, .int .i64 (2 * 12 + 5 + 2 * 4 + 3 * Int.tmod (W 0) 4 + 2), .int .u64 (peek (putI (List.replicate (Int.toNat (2 * 12 + 5 * 4 + 6)) 0) (W (1 + Int.tmod (W 1) 12)) (putV 7 9 false 0 (W 5))) (2 * 12 + 5 + 2 * 4 + 3 * Int.tmod (W 0) 4 + 2)), .int .u64 (dPutV (3 % 4096) (W (1 + Int.tmod (W 1) 12) % 512) (W 5 % 262144) (Int.tmod (W 3) 13 % 512) false (2 % 8) (W 0 % 1024)), .bool true]), some (.ints (some .u64) (putI (putI (List.replicate (Int.toNat (2 * 12 + 5 * 4 + 6)) 0) (W (1 + Int.tmod (W 1) 12)) (putV 7 9 false 0 (W 5))) (2 * 12 + 5 + 2 * 4 + 3 * Int.tmod (W 0) 4 + 2) (dPutV (3 % 4096) (W (1 + Int.tmod (W 1) 12) % 512) (W 5 % 262144) (Int.tmod (W 3) 13 % 512) false (2 % 8) (W 0 % 1024)))), some (.cells [.ptr 3 0, .ptr 4 0, .ptr 5 0]), some (.cells [.int .i64 4, .int .i64 12, .int .i64 0, .int .i64 0, .int .i64 0, .int .i64 1, .int .i64 2, .int .i64 7, .bool false, .int .i64 0, .int .i64 0, .int .u64 0, .int .u64 0]), some (.cells [.int .i64 4, .int .i64 12, .int .i64 0, .int .i64 0, .int .i64 0, .int .i64 1, .int .i64 2, .int .i64 7, .bool false, .int .i64 0, .int .i64 0, .int .u64 0, .int .u64 0]), some (.cells [.int .i64 4, .int .i64 12, .int .i64 0, .int .i64 0, .int .i64 0, .int .i64 1, .int .i64 2, .int .i64 7, .bool false, .int .i64 0, .int .i64 0, .int .u64 0, .int .u64 0])] [some (.cells [.int .i64 4, .int .i64 12, .slice 1 0 50 1, .int .i64 2, .int .i64 2, .int .i64 39, .int .u64 0, .int .u64 1127549184778243, .bool true]), some (.ints (some .u64) [0, 0, 167781383, 0, 0, 0, 0, 0, 0, 0, 0, 0, 0, 0, 0, 0, 0, 0, 0, 0, 0, 0, 0, 0, 0, 0, 0, 0, 0, 0, 0, 0, 0, 0, 0, 0, 0, 0, 0, 1127549184778243, 0, 0, 0, 0, 0, 0, 0, 0, 0, 0]), some (.cells [.ptr 3 0, .ptr 4 0, .ptr 5 0]), some (.cells [.int .i64 4, .int .i64 12, .int .i64 0, .int .i64 0, .int .i64 0, .int .i64 1, .int .i64 2, .int .i64 7, .bool false, .int .i64 0, .int .i64 0, .int .u64 0, .int .u64 0]), some (.cells [.int .i64 4, .int .i64 12, .int .i64 0, .int .i64 0, .int .i64 0, .int .i64 1, .int .i64 2, .int .i64 7, .bool false, .int .i64 0, .int .i64 0, .int .u64 0, .int .u64 0]), some (.cells [.int .i64 4, .int .i64 12, .int .i64 0, .int .i64 0, .int .i64 0, .int .i64 1, .int .i64 2, .int .i64 7, .bool false, .int .i64 0, .int .i64 0, .int .u64 0, .int .u64 0])] ∧ True) ∧ ((50 = 50 ∧ True) ∧ True) ∧ ((0 : Int) ≤ peek [0, 0, 201329671, 0, 0, 0, 0, 0, 0, 0, 0, 0, 0, 0, 0, 0, 0, 0, 0, 0, 0, 0, 0, 0, 0, 0, 0, 0, 0, 0, 0, 0, 0, 0, 0, 0, 0, 0, 0, 3096224743817219, 0, 0, 0, 0, 0, 0, 0, 0, 0, 0] 2 ∧ peek [0, 0, 201329671, 0, 0, 0, 0, 0, 0, 0, 0, 0, 0, 0, 0, 0, 0, 0, 0, 0, 0, 0, 0, 0, 0, 0, 0, 0, 0, 0, 0, 0, 0, 0, 0, 0, 0, 0, 0, 3096224743817219, 0, 0, 0, 0, 0, 0, 0, 0, 0, 0] (2 : Int) ≤ (18446744073709551615 : Int)) ∧ ((((0 : Int) ≤ (4 : Int) ∧ (4 : Int) ≤ (100000 : Int)) ∧ ((0 : Int) ≤ (12 : Int) ∧ (12 : Int) ≤ (100000 : Int)) ∧ (-1099511627776 : Int) ≤ (0 : Int) ∧ (0 : Int) ≤ (1099511627776 : Int)) ∧ True) ∧ ((50 = 50 ∧ True) ∧ True) ∧ ((0 : Int) ≤ peek [0, 0, 201329671, 0, 0, 0, 0, 0, 0, 0, 0, 0, 0, 0, 0, 0, 0, 0, 0, 0, 0, 0, 0, 0, 0, 0, 0, 0, 0, 0, 0, 0, 0, 0, 0, 0, 0, 0, 0, 3096224743817219, 0, 0, 0, 0, 0, 0, 0, 0, 0, 0] (2 * 12 + 5 + 2 * 4 + 3 * 0 + 2) ∧ peek [0, 0, 201329671, 0, 0, 0, 0, 0, 0, 0, 0, 0, 0, 0, 0, 0, 0, 0, 0, 0, 0, 0, 0, 0, 0, 0, 0, 0, 0, 0, 0, 0, 0, 0, 0, 0, 0, 0, 0, 3096224743817219, 0, 0, 0, 0, 0, 0, 0, 0, 0, 0] (2 * 12 + 5 + 2 * 4 + 3 * 0 + 2) ≤ (18446744073709551615 : Int)) ∧ K (.bool true) []) (by kernel_rfl) ?_))
  with_unfolding_all repeat' (first | exact hK | exact ⟨rfl⟩ | trivial | decide | apply And.intro)
noncomputable def EX5 := EX4.addS 16 awake16S awake16_ok
end Go.Sh.XX

namespace Go.Sh.XX
open Go Go.Proofs
variable [Con]
end Go.Sh.XX

namespace Go.Sh.XX
open Go Go.Proofs
variable [Con]
theorem dcut_a {a b c d e f : Int} {m : Bool} (h : dOk a b c d e f = true) : cutI (dPutV a b c d m e f) 0 12 = a := by
  have h := dOk_true.1 h
  have hm : 0 ≤ bitI m ∧ bitI m ≤ 1 := by cases m <;> decide
  unfold cutI dPutV
  generalize bitI m = mm at hm ⊢
  show _ / 1 % 4096 = _
  omega
theorem dcut_b {a b c d e f : Int} {m : Bool} (h : dOk a b c d e f = true) : cutI (dPutV a b c d m e f) 12 9 = b := by
  have h := dOk_true.1 h
  have hm : 0 ≤ bitI m ∧ bitI m ≤ 1 := by cases m <;> decide
  unfold cutI dPutV
  generalize bitI m = mm at hm ⊢
  show _ / 4096 % 512 = _
  omega
theorem dcut_c {a b c d e f : Int} {m : Bool} (h : dOk a b c d e f = true) : cutI (dPutV a b c d m e f) 21 18 = c := by
  have h := dOk_true.1 h
  have hm : 0 ≤ bitI m ∧ bitI m ≤ 1 := by cases m <;> decide
  unfold cutI dPutV
  generalize bitI m = mm at hm ⊢
  show _ / 2097152 % 262144 = _
  omega
theorem dcut_d {a b c d e f : Int} {m : Bool} (h : dOk a b c d e f = true) : cutI (dPutV a b c d m e f) 39 9 = d := by
  have h := dOk_true.1 h
  have hm : 0 ≤ bitI m ∧ bitI m ≤ 1 := by cases m <;> decide
  unfold cutI dPutV
  generalize bitI m = mm at hm ⊢
  show _ / 549755813888 % 512 = _
  omega
theorem dcut_e {a b c d e f : Int} {m : Bool} (h : dOk a b c d e f = true) : cutI (dPutV a b c d m e f) 49 3 = e := by
  have h := dOk_true.1 h
  have hm : 0 ≤ bitI m ∧ bitI m ≤ 1 := by cases m <;> decide
  unfold cutI dPutV
  generalize bitI m = mm at hm ⊢
  show _ / 562949953421312 % 8 = _
  omega
theorem dcut_f {a b c d e f : Int} {m : Bool} (h : dOk a b c d e f = true) : cutI (dPutV a b c d m e f) 52 10 = f := by
  have h := dOk_true.1 h
  have hm : 0 ≤ bitI m ∧ bitI m ≤ 1 := by cases m <;> decide
  unfold cutI dPutV
  generalize bitI m = mm at hm ⊢
  show _ / 4503599627370496 % 1024 = _
  omega
theorem dcut_m {a b c d e f : Int} {m : Bool} (h : dOk a b c d e f = true) : cutI (dPutV a b c d m e f) 48 1 = bitI m := by
  have h := dOk_true.1 h
  have hm : 0 ≤ bitI m ∧ bitI m ≤ 1 := by cases m <;> decide
  unfold cutI dPutV
  generalize bitI m = mm at hm ⊢
  show _ / 281474976710656 % 2 = _
  omega
theorem dPutV_in {a b c d e f : Int} {m : Bool} (h : dOk a b c d e f = true) : 0 ≤ dPutV a b c d m e f ∧ dPutV a b c d m e f ≤ 18446744073709551615 := by
  have h := dOk_true.1 h
  have hm : 0 ≤ bitI m ∧ bitI m ≤ 1 := by cases m <;> decide
  unfold dPutV
  generalize bitI m = mm at hm ⊢
  omega
theorem peek_putI {xs : List Int} {a b x : Int} : peek (putI xs a x) b = if a = b ∧ 0 ≤ a ∧ a < xs.length then x else peek xs b := by
  unfold putI
  split
  · rename_i h
    unfold peek
    simp only [List.length_set]
    by_cases hb : 0 ≤ b ∧ b < xs.length
    · rw [if_pos hb, if_pos hb]
      have hlt : b.toNat < xs.length := by omega
      rw [List.getD_eq_getElem?_getD, List.getElem?_set, List.getD_eq_getElem?_getD]
      by_cases hab : a = b
      · subst hab
        simp [hlt, h]
      · rw [if_neg (by omega), if_neg (by omega)]
    · rw [if_neg hb, if_neg hb, if_neg (by omega)]
  · rename_i h
    rw [if_neg (by omega)]
theorem peek_putI_eq {xs : List Int} {a x : Int} (h : 0 ≤ a ∧ a < xs.length) : peek (putI xs a x) a = x := by rw [peek_putI, if_pos ⟨rfl, h⟩]
theorem peek_putI_ne {xs : List Int} {a b x : Int} (h : a ≠ b) : peek (putI xs a x) b = peek xs b := by rw [peek_putI, if_neg (fun c => h c.1)]

end Go.Sh.XX

namespace Go.Sh.XX
open Go Go.Proofs
variable [Con]
theorem casB_in {xs : List Int} {a x : Int} (h : casB xs a x = true) : inB xs a = true := by
  unfold casB at h
  cases e : inB xs a
  · rw [e] at h; cases h
  · rfl
end Go.Sh.XX

namespace Go.Sh.XX
open Go Go.Proofs
variable [Con]
end Go.Sh.XX

namespace Go.Sh.XX
open Go Go.Proofs
variable [Con]
end Go.Sh.XX

namespace Go.Sh.XX
open Go Go.Proofs
variable [Con]
theorem putOk_parts {k x c v : Int} {m : Bool} (hk : 0 ≤ k ∧ k < 1024) (hx : 0 ≤ x ∧ x < 512) (hc : 0 ≤ c ∧ c < 32) (hv : 0 ≤ v ∧ v < 262144) : cutI (putV k x m c v) 0 10 = k ∧ cutI (putV k x m c v) 10 9 = x ∧ cutI (putV k x m c v) 19 1 = bitI m ∧ cutI (putV k x m c v) 20 5 = c ∧ cutI (putV k x m c v) 25 18 = v := by
  have hm : 0 ≤ bitI m ∧ bitI m ≤ 1 := by cases m <;> decide
  unfold cutI putV
  generalize bitI m = mm at hm ⊢
  refine ⟨?_, ?_, ?_, ?_, ?_⟩
  · show _ / 1 % 1024 = _; omega
  · show _ / 1024 % 512 = _; omega
  · show _ / 524288 % 2 = _; omega
  · show _ / 1048576 % 32 = _; omega
  · show _ / 33554432 % 262144 = _; omega
theorem bit_back (m : Bool) : ieq (bitI m) 1 = m := by cases m <;> decide
structure PR where
  U : Int
  A : Int
  N : Int
  V : Int
  X : Int
  M : Bool
  W : Int
  C : Int
  sh : Int
  kd : Int
  ky : Int
structure okPR (p : PR) : Prop where
  hU : 0 ≤ p.U ∧ p.U ≤ 3
  hA : 1 ≤ p.A ∧ p.A ≤ 12
  hN : 0 ≤ p.N ∧ p.N ≤ 12
  hV : 0 ≤ p.V ∧ p.V ≤ 65535
  hX : 0 ≤ p.X ∧ p.X ≤ 255
  hW : 0 ≤ p.W ∧ p.W ≤ 65536
  hC : 0 ≤ p.C ∧ p.C ≤ 4
def XM (p : PR) (w d l : Int) : List Int := putI (putI (putI (List.replicate 50 0) (16 + p.N) l) p.A w) (39 + 3 * p.U) d
theorem XM_len (p : PR) (w d l : Int) : (XM p w d l).length = 50 := by unfold XM; simp only [putI_length, List.length_replicate]
theorem XM_d (p : PR) (hp : okPR p) (w d l : Int) : peek (XM p w d l) (39 + 3 * p.U) = d := by
  have h := hp.hU
  unfold XM
  exact peek_putI_eq (by simp only [putI_length, List.length_replicate]; omega)
theorem XM_w (p : PR) (hp : okPR p) (w d l : Int) : peek (XM p w d l) p.A = w := by
  have h := hp.hU
  have h2 := hp.hA
  unfold XM
  rw [peek_putI_ne (by omega)]
  exact peek_putI_eq (by simp only [putI_length, List.length_replicate]; omega)
theorem putI_putI (xs : List Int) (a x y : Int) : putI (putI xs a x) a y = putI xs a y := by
  unfold putI
  split
  · rename_i h
    simp only [List.length_set, h, and_self, if_true, List.set_set]
  · rename_i h
    simp only [h, if_false]
theorem putI_off {xs : List Int} {a : Int} (h : ¬ (0 ≤ a ∧ a < xs.length)) (x : Int) : putI xs a x = xs := by unfold putI; rw [if_neg h]
theorem putI_comm (xs : List Int) {a b : Int} (x y : Int) (hab : a ≠ b) : putI (putI xs a x) b y = putI (putI xs b y) a x := by
  by_cases ha : 0 ≤ a ∧ a < xs.length
  · by_cases hb : 0 ≤ b ∧ b < xs.length
    · unfold putI
      simp only [ha, hb, and_self, if_true, List.length_set]
      exact List.set_comm x y (by omega)
    · rw [putI_off (by rw [putI_length]; exact hb), putI_off hb]
  · rw [putI_off ha, putI_off (xs := putI xs b y) (by rw [putI_length]; exact ha)]
theorem XM_putd (p : PR) (w d l e : Int) : putI (XM p w d l) (39 + 3 * p.U) e = XM p w e l := by
  unfold XM; rw [putI_putI]
theorem XM_putw (p : PR) (hp : okPR p) (w d l e : Int) : putI (XM p w d l) p.A e = XM p e d l := by
  have h := hp.hU
  have h2 := hp.hA
  unfold XM; rw [putI_comm _ _ _ (show 39 + 3 * p.U ≠ p.A by omega), putI_putI]
def XW (p : PR) (x : Int) (m : Bool) (c v : Int) : Int := putV 7 x m c v
def XD (p : PR) (e : Int) : Int := dPutV 3 p.A p.V p.N p.M e p.X
theorem XD_ok (p : PR) (hp : okPR p) {e : Int} (he : 0 ≤ e ∧ e < 8) : dOk 3 p.A p.V p.N e p.X = true := by
  have h1 := hp.hA
  have h2 := hp.hN
  have h3 := hp.hV
  have h4 := hp.hX
  exact dOk_true.2 (by omega)
theorem XD_again (p : PR) (hp : okPR p) {e f : Int} (he : 0 ≤ e ∧ e < 8) : dPutV (cutI (XD p e) 0 12) (cutI (XD p e) 12 9) (cutI (XD p e) 21 18) (cutI (XD p e) 39 9) (ieq (cutI (XD p e) 48 1) 1) f (cutI (XD p e) 52 10) = XD p f := by
  have h := XD_ok p hp he
  unfold XD
  rw [dcut_a h, dcut_b h, dcut_c h, dcut_d h, dcut_m h, dcut_f h, bit_back]
theorem XD_cuts (p : PR) (hp : okPR p) {e : Int} (he : 0 ≤ e ∧ e < 8) : cutI (XD p e) 0 12 = 3 ∧ cutI (XD p e) 12 9 = p.A ∧ cutI (XD p e) 21 18 = p.V ∧ cutI (XD p e) 39 9 = p.N ∧ ieq (cutI (XD p e) 48 1) 1 = p.M ∧ cutI (XD p e) 49 3 = e ∧ cutI (XD p e) 52 10 = p.X := by
  have h := XD_ok p hp he
  unfold XD
  rw [dcut_a h, dcut_b h, dcut_c h, dcut_d h, dcut_m h, dcut_e h, dcut_f h, bit_back]
  exact ⟨rfl, rfl, rfl, rfl, rfl, rfl, rfl⟩
theorem cas_in {xs : List Int} {a x : Int} (h : 0 ≤ a ∧ a < xs.length) (e : peek xs a = x) : casB xs a x = true := by
  unfold casB inB
  rw [e, ieq_self]
  rw [ile_eq, ilt_eq, decide_eq_true h.1, decide_eq_true h.2]; rfl
theorem XM_putl (p : PR) (hp : okPR p) (w d l e : Int) : putI (XM p w d l) (16 + p.N) e = XM p w d e := by
  have h := hp.hU
  have h2 := hp.hA
  have h3 := hp.hN
  unfold XM
  by_cases c : p.N = 0
  all_goals
    rw [putI_comm _ _ _ (show 39 + 3 * p.U ≠ 16 + p.N by omega), putI_comm _ _ _ (show p.A ≠ 16 + p.N by omega), putI_putI]
theorem XM_l (p : PR) (hp : okPR p) (w d l : Int) : peek (XM p w d l) (16 + p.N) = l := by
  have h := hp.hU
  have h2 := hp.hA
  have h3 := hp.hN
  unfold XM
  rw [peek_putI_ne (by omega), peek_putI_ne (by omega)]
  exact peek_putI_eq (by simp only [List.length_replicate]; omega)
theorem XM_cd (p : PR) (hp : okPR p) (w d l : Int) : casB (XM p w d l) (39 + 3 * p.U) d = true := by
  have h := hp.hU
  exact cas_in (by rw [XM_len]; omega) (XM_d p hp _ _ _)
theorem XM_cw (p : PR) (hp : okPR p) (w d l : Int) : casB (XM p w d l) p.A w = true := by
  have h := hp.hA
  exact cas_in (by rw [XM_len]; omega) (XM_w p hp _ _ _)
end Go.Sh.XX

namespace Go.Sh.XX
open Go Go.Proofs
variable [Con]
def propVC (th nd nx ver od do' va : Int) (mk : Bool) (K : AVal → Heap Ob → Prop) : Prop := True ∧ bif !rightB 4 12 then K (.tup [.raw (Value.pointer none), .agg [.int .i64 4, .int .i64 12], .agg [.int .i64 0, .int .i64 0, .int .i64 0]]) [] else (((0 : Int) ≤ (4 : Int) ∧ (4 : Int) ≤ (100000 : Int)) ∧ (0 : Int) ≤ (12 : Int) ∧ (12 : Int) ≤ (100000 : Int)) ∧ ((((0 : Int) ≤ (4 : Int) ∧ (4 : Int) ≤ (100000 : Int)) ∧ (0 : Int) ≤ (12 : Int) ∧ (12 : Int) ≤ (100000 : Int)) ∧ True) ∧ ((0 : Int) ≤ (2 : Int) * 12 + 5 * 4 + 6 ∧ 2 * 12 + 5 * 4 + (6 : Int) = (2 : Int) * 12 + 5 * 4 + 6 ∧ 2 * 12 + 5 * 4 + (6 : Int) ≤ (4294967296 : Int)) ∧ (4 : Int) ≠ (0 : Int) ∧ (12 : Int) ≠ (0 : Int) ∧ (13 : Int) ≠ (0 : Int) ∧ (3 : Int) ≠ (0 : Int) ∧ bif ieq (Int.tmod od 3) 1 then (((0 : Int) ≤ (7 : Int) ∧ (7 : Int) < (1024 : Int)) ∧ ((0 : Int) ≤ (9 : Int) ∧ (9 : Int) < (512 : Int)) ∧ ((0 : Int) ≤ (0 : Int) ∧ (0 : Int) < (32 : Int)) ∧ (0 : Int) ≤ W (W ver + 1) ∧ W (W ver + 1) < (262144 : Int)) ∧ (50 = 50 ∧ (0 : Int) ≤ (0 : Int) ∧ (0 : Int) ≤ (4611686018427387904 : Int)) ∧ ((((0 : Int) ≤ (4 : Int) ∧ (4 : Int) ≤ (100000 : Int)) ∧ ((0 : Int) ≤ (12 : Int) ∧ (12 : Int) ≤ (100000 : Int)) ∧ (-1099511627776 : Int) ≤ Int.tmod (W th) 4 ∧ Int.tmod (W th) (4 : Int) ≤ (1099511627776 : Int)) ∧ True) ∧ (((0 : Int) ≤ (3 : Int) ∧ (3 : Int) ≤ (1000000 : Int)) ∧ ((0 : Int) ≤ W (1 + Int.tmod (W nd) 12) ∧ W (1 + Int.tmod (W nd) 12) ≤ (1000000 : Int)) ∧ ((0 : Int) ≤ W ver ∧ W ver ≤ (1000000 : Int)) ∧ ((0 : Int) ≤ Int.tmod (W nx) 13 ∧ Int.tmod (W nx) (13 : Int) ≤ (1000000 : Int)) ∧ ((0 : Int) ≤ (2 : Int) ∧ (2 : Int) ≤ (1000000 : Int)) ∧ (0 : Int) ≤ W va ∧ W va ≤ (1000000 : Int)) ∧ ((List.length (putI (List.replicate (Int.toNat (2 * 12 + 5 * 4 + 6)) 0) (W (1 + Int.tmod (W nd) 12)) (putV 7 9 false 0 (W (W ver + 1)))) = List.length (putI (List.replicate (Int.toNat (2 * 12 + 5 * 4 + 6)) 0) (W (1 + Int.tmod (W nd) 12)) (putV 7 9 false 0 (W (W ver + 1)))) ∧ (0 : Int) ≤ (0 : Int) + 1 ∧ 0 + (1 : Int) ≤ (4611686018427387904 : Int)) ∧ True) ∧ (3 : Int) ≠ (0 : Int) ∧ bif ieq (Int.tmod do' 3) 1 then K (.tup [.ptr 0 0, .agg [.int .i64 4, .int .i64 12], .agg [.int .i64 4, .int .i64 4, .int .i64 1]]) [some (.cells [.int .i64 4, .int .i64 12, .slice 1 0 (List.length (putI (putI (List.replicate (Int.toNat (2 * 12 + 5 * 4 + 6)) 0) (W (1 + Int.tmod (W nd) 12)) (putV 7 9 false 0 (W (W ver + 1)))) (2 * 12 + 5 + 2 * 4 + 3 * Int.tmod (W th) 4 + 2) (dPutV (3 % 4096) (W (1 + Int.tmod (W nd) 12) % 512) (W ver % 262144) (Int.tmod (W nx) 13 % 512) mk (2 % 8) (W va % 1024)))) 1, .int .i64 (0 + 1 + 1), .int .i64 2, .int .i64 (2 * 12 + 5 + 2 * 4 + 3 * Int.tmod (W th) 4 + 2), .int .u64 (peek (putI (List.replicate (Int.toNat (2 * 12 + 5 * 4 + 6)) 0) (W (1 + Int.tmod (W nd) 12)) (putV 7 9 false 0 (W (W ver + 1)))) (2 * 12 + 5 + 2 * 4 + 3 * Int.tmod (W th) 4 + 2)), .int .u64 (bif inB (putI (List.replicate (Int.toNat (2 * 12 + 5 * 4 + 6)) 0) (W (1 + Int.tmod (W nd) 12)) (putV 7 9 false 0 (W (W ver + 1)))) (2 * 12 + 5 + 2 * 4 + 3 * Int.tmod (W th) 4 + 2) then dPutV (3 % 4096) (W (1 + Int.tmod (W nd) 12) % 512) (W ver % 262144) (Int.tmod (W nx) 13 % 512) mk (2 % 8) (W va % 1024) else 0), .bool (inB (putI (List.replicate (Int.toNat (2 * 12 + 5 * 4 + 6)) 0) (W (1 + Int.tmod (W nd) 12)) (putV 7 9 false 0 (W (W ver + 1)))) (2 * 12 + 5 + 2 * 4 + 3 * Int.tmod (W th) 4 + 2))]), some (.ints (some .u64) (putI (putI (List.replicate (Int.toNat (2 * 12 + 5 * 4 + 6)) 0) (W (1 + Int.tmod (W nd) 12)) (putV 7 9 false 0 (W (W ver + 1)))) (2 * 12 + 5 + 2 * 4 + 3 * Int.tmod (W th) 4 + 2) (dPutV (3 % 4096) (W (1 + Int.tmod (W nd) 12) % 512) (W ver % 262144) (Int.tmod (W nx) 13 % 512) mk (2 % 8) (W va % 1024))))] else bif ieq (Int.tmod do' 3) 2 then K (.tup [.ptr 0 0, .agg [.int .i64 4, .int .i64 12], .agg [.int .i64 4, .int .i64 5, .int .i64 0]]) [some (.cells [.int .i64 4, .int .i64 12, .slice 1 0 (List.length (putI (putI (List.replicate (Int.toNat (2 * 12 + 5 * 4 + 6)) 0) (W (1 + Int.tmod (W nd) 12)) (putV 7 9 false 0 (W (W ver + 1)))) (2 * 12 + 5 + 2 * 4 + 3 * Int.tmod (W th) 4 + 2) (dPutV (3 % 4096) (W (1 + Int.tmod (W nd) 12) % 512) (W ver % 262144) (Int.tmod (W nx) 13 % 512) mk (2 % 8) (W va % 1024)))) 1, .int .i64 (0 + 1 + 1), .int .i64 2, .int .i64 (2 * 12 + 5 + 2 * 4 + 3 * Int.tmod (W th) 4 + 2), .int .u64 (peek (putI (List.replicate (Int.toNat (2 * 12 + 5 * 4 + 6)) 0) (W (1 + Int.tmod (W nd) 12)) (putV 7 9 false 0 (W (W ver + 1)))) (2 * 12 + 5 + 2 * 4 + 3 * Int.tmod (W th) 4 + 2)), .int .u64 (bif inB (putI (List.replicate (Int.toNat (2 * 12 + 5 * 4 + 6)) 0) (W (1 + Int.tmod (W nd) 12)) (putV 7 9 false 0 (W (W ver + 1)))) (2 * 12 + 5 + 2 * 4 + 3 * Int.tmod (W th) 4 + 2) then dPutV (3 % 4096) (W (1 + Int.tmod (W nd) 12) % 512) (W ver % 262144) (Int.tmod (W nx) 13 % 512) mk (2 % 8) (W va % 1024) else 0), .bool (inB (putI (List.replicate (Int.toNat (2 * 12 + 5 * 4 + 6)) 0) (W (1 + Int.tmod (W nd) 12)) (putV 7 9 false 0 (W (W ver + 1)))) (2 * 12 + 5 + 2 * 4 + 3 * Int.tmod (W th) 4 + 2))]), some (.ints (some .u64) (putI (putI (List.replicate (Int.toNat (2 * 12 + 5 * 4 + 6)) 0) (W (1 + Int.tmod (W nd) 12)) (putV 7 9 false 0 (W (W ver + 1)))) (2 * 12 + 5 + 2 * 4 + 3 * Int.tmod (W th) 4 + 2) (dPutV (3 % 4096) (W (1 + Int.tmod (W nd) 12) % 512) (W ver % 262144) (Int.tmod (W nx) 13 % 512) mk (2 % 8) (W va % 1024))))] else K (.tup [.ptr 0 0, .agg [.int .i64 4, .int .i64 12], .agg [.int .i64 1, .int .i64 2, .int .i64 7]]) [some (.cells [.int .i64 4, .int .i64 12, .slice 1 0 (List.length (putI (putI (List.replicate (Int.toNat (2 * 12 + 5 * 4 + 6)) 0) (W (1 + Int.tmod (W nd) 12)) (putV 7 9 false 0 (W (W ver + 1)))) (2 * 12 + 5 + 2 * 4 + 3 * Int.tmod (W th) 4 + 2) (dPutV (3 % 4096) (W (1 + Int.tmod (W nd) 12) % 512) (W ver % 262144) (Int.tmod (W nx) 13 % 512) mk (2 % 8) (W va % 1024)))) 1, .int .i64 (0 + 1 + 1), .int .i64 2, .int .i64 (2 * 12 + 5 + 2 * 4 + 3 * Int.tmod (W th) 4 + 2), .int .u64 (peek (putI (List.replicate (Int.toNat (2 * 12 + 5 * 4 + 6)) 0) (W (1 + Int.tmod (W nd) 12)) (putV 7 9 false 0 (W (W ver + 1)))) (2 * 12 + 5 + 2 * 4 + 3 * Int.tmod (W th) 4 + 2)), .int .u64 (bif inB (putI (List.replicate (Int.toNat (2 * 12 + 5 * 4 + 6)) 0) (W (1 + Int.tmod (W nd) 12)) (putV 7 9 false 0 (W (W ver + 1)))) (2 * 12 + 5 + 2 * 4 + 3 * Int.tmod (W th) 4 + 2) then dPutV (3 % 4096) (W (1 + Int.tmod (W nd) 12) % 512) (W ver % 262144) (Int.tmod (W nx) 13 % 512) mk (2 % 8) (W va % 1024) else 0), .bool (inB (putI (List.replicate (Int.toNat (2 * 12 + 5 * 4 + 6)) 0) (W (1 + Int.tmod (W nd) 12)) (putV 7 9 false 0 (W (W ver + 1)))) (2 * 12 + 5 + 2 * 4 + 3 * Int.tmod (W th) 4 + 2))]), some (.ints (some .u64) (putI (putI (List.replicate (Int.toNat (2 * 12 + 5 * 4 + 6)) 0) (W (1 + Int.tmod (W nd) 12)) (putV 7 9 false 0 (W (W ver + 1)))) (2 * 12 + 5 + 2 * 4 + 3 * Int.tmod (W th) 4 + 2) (dPutV (3 % 4096) (W (1 + Int.tmod (W nd) 12) % 512) (W ver % 262144) (Int.tmod (W nx) 13 % 512) mk (2 % 8) (W va % 1024))))] else bif ieq (Int.tmod od 3) 2 then (4 : Int) ≠ (0 : Int) ∧ (((0 : Int) ≤ (7 : Int) ∧ (7 : Int) < (1024 : Int)) ∧ ((0 : Int) ≤ (9 : Int) ∧ (9 : Int) < (512 : Int)) ∧ ((0 : Int) ≤ W (Int.tmod (W (Int.tmod (W th) 4 + 1)) 4 + 1) ∧ W (Int.tmod (W (Int.tmod (W th) 4 + 1)) 4 + 1) < (32 : Int)) ∧ (0 : Int) ≤ W ver ∧ W ver < (262144 : Int)) ∧ (50 = 50 ∧ (0 : Int) ≤ (0 : Int) ∧ (0 : Int) ≤ (4611686018427387904 : Int)) ∧ ((((0 : Int) ≤ (4 : Int) ∧ (4 : Int) ≤ (100000 : Int)) ∧ ((0 : Int) ≤ (12 : Int) ∧ (12 : Int) ≤ (100000 : Int)) ∧ (-1099511627776 : Int) ≤ Int.tmod (W th) 4 ∧ Int.tmod (W th) (4 : Int) ≤ (1099511627776 : Int)) ∧ True) ∧ (((0 : Int) ≤ (3 : Int) ∧ (3 : Int) ≤ (1000000 : Int)) ∧ ((0 : Int) ≤ W (1 + Int.tmod (W nd) 12) ∧ W (1 + Int.tmod (W nd) 12) ≤ (1000000 : Int)) ∧ ((0 : Int) ≤ W ver ∧ W ver ≤ (1000000 : Int)) ∧ ((0 : Int) ≤ Int.tmod (W nx) 13 ∧ Int.tmod (W nx) (13 : Int) ≤ (1000000 : Int)) ∧ ((0 : Int) ≤ (2 : Int) ∧ (2 : Int) ≤ (1000000 : Int)) ∧ (0 : Int) ≤ W va ∧ W va ≤ (1000000 : Int)) ∧ ((List.length (putI (List.replicate (Int.toNat (2 * 12 + 5 * 4 + 6)) 0) (W (1 + Int.tmod (W nd) 12)) (putV 7 9 false (W (Int.tmod (W (Int.tmod (W th) 4 + 1)) 4 + 1)) (W ver))) = List.length (putI (List.replicate (Int.toNat (2 * 12 + 5 * 4 + 6)) 0) (W (1 + Int.tmod (W nd) 12)) (putV 7 9 false (W (Int.tmod (W (Int.tmod (W th) 4 + 1)) 4 + 1)) (W ver))) ∧ (0 : Int) ≤ (0 : Int) + 1 ∧ 0 + (1 : Int) ≤ (4611686018427387904 : Int)) ∧ True) ∧ (3 : Int) ≠ (0 : Int) ∧ bif ieq (Int.tmod do' 3) 1 then K (.tup [.ptr 0 0, .agg [.int .i64 4, .int .i64 12], .agg [.int .i64 4, .int .i64 4, .int .i64 1]]) [some (.cells [.int .i64 4, .int .i64 12, .slice 1 0 (List.length (putI (putI (List.replicate (Int.toNat (2 * 12 + 5 * 4 + 6)) 0) (W (1 + Int.tmod (W nd) 12)) (putV 7 9 false (W (Int.tmod (W (Int.tmod (W th) 4 + 1)) 4 + 1)) (W ver))) (2 * 12 + 5 + 2 * 4 + 3 * Int.tmod (W th) 4 + 2) (dPutV (3 % 4096) (W (1 + Int.tmod (W nd) 12) % 512) (W ver % 262144) (Int.tmod (W nx) 13 % 512) mk (2 % 8) (W va % 1024)))) 1, .int .i64 (0 + 1 + 1), .int .i64 2, .int .i64 (2 * 12 + 5 + 2 * 4 + 3 * Int.tmod (W th) 4 + 2), .int .u64 (peek (putI (List.replicate (Int.toNat (2 * 12 + 5 * 4 + 6)) 0) (W (1 + Int.tmod (W nd) 12)) (putV 7 9 false (W (Int.tmod (W (Int.tmod (W th) 4 + 1)) 4 + 1)) (W ver))) (2 * 12 + 5 + 2 * 4 + 3 * Int.tmod (W th) 4 + 2)), .int .u64 (bif inB (putI (List.replicate (Int.toNat (2 * 12 + 5 * 4 + 6)) 0) (W (1 + Int.tmod (W nd) 12)) (putV 7 9 false (W (Int.tmod (W (Int.tmod (W th) 4 + 1)) 4 + 1)) (W ver))) (2 * 12 + 5 + 2 * 4 + 3 * Int.tmod (W th) 4 + 2) then dPutV (3 % 4096) (W (1 + Int.tmod (W nd) 12) % 512) (W ver % 262144) (Int.tmod (W nx) 13 % 512) mk (2 % 8) (W va % 1024) else 0), .bool (inB (putI (List.replicate (Int.toNat (2 * 12 + 5 * 4 + 6)) 0) (W (1 + Int.tmod (W nd) 12)) (putV 7 9 false (W (Int.tmod (W (Int.tmod (W th) 4 + 1)) 4 + 1)) (W ver))) (2 * 12 + 5 + 2 * 4 + 3 * Int.tmod (W th) 4 + 2))]), some (.ints (some .u64) (putI (putI (List.replicate (Int.toNat (2 * 12 + 5 * 4 + 6)) 0) (W (1 + Int.tmod (W nd) 12)) (putV 7 9 false (W (Int.tmod (W (Int.tmod (W th) 4 + 1)) 4 + 1)) (W ver))) (2 * 12 + 5 + 2 * 4 + 3 * Int.tmod (W th) 4 + 2) (dPutV (3 % 4096) (W (1 + Int.tmod (W nd) 12) % 512) (W ver % 262144) (Int.tmod (W nx) 13 % 512) mk (2 % 8) (W va % 1024))))] else bif ieq (Int.tmod do' 3) 2 then K (.tup [.ptr 0 0, .agg [.int .i64 4, .int .i64 12], .agg [.int .i64 4, .int .i64 5, .int .i64 0]]) [some (.cells [.int .i64 4, .int .i64 12, .slice 1 0 (List.length (putI (putI (List.replicate (Int.toNat (2 * 12 + 5 * 4 + 6)) 0) (W (1 + Int.tmod (W nd) 12)) (putV 7 9 false (W (Int.tmod (W (Int.tmod (W th) 4 + 1)) 4 + 1)) (W ver))) (2 * 12 + 5 + 2 * 4 + 3 * Int.tmod (W th) 4 + 2) (dPutV (3 % 4096) (W (1 + Int.tmod (W nd) 12) % 512) (W ver % 262144) (Int.tmod (W nx) 13 % 512) mk (2 % 8) (W va % 1024)))) 1, .int .i64 (0 + 1 + 1), .int .i64 2, .int .i64 (2 * 12 + 5 + 2 * 4 + 3 * Int.tmod (W th) 4 + 2), .int .u64 (peek (putI (List.replicate (Int.toNat (2 * 12 + 5 * 4 + 6)) 0) (W (1 + Int.tmod (W nd) 12)) (putV 7 9 false (W (Int.tmod (W (Int.tmod (W th) 4 + 1)) 4 + 1)) (W ver))) (2 * 12 + 5 + 2 * 4 + 3 * Int.tmod (W th) 4 + 2)), .int .u64 (bif inB (putI (List.replicate (Int.toNat (2 * 12 + 5 * 4 + 6)) 0) (W (1 + Int.tmod (W nd) 12)) (putV 7 9 false (W (Int.tmod (W (Int.tmod (W th) 4 + 1)) 4 + 1)) (W ver))) (2 * 12 + 5 + 2 * 4 + 3 * Int.tmod (W th) 4 + 2) then dPutV (3 % 4096) (W (1 + Int.tmod (W nd) 12) % 512) (W ver % 262144) (Int.tmod (W nx) 13 % 512) mk (2 % 8) (W va % 1024) else 0), .bool (inB (putI (List.replicate (Int.toNat (2 * 12 + 5 * 4 + 6)) 0) (W (1 + Int.tmod (W nd) 12)) (putV 7 9 false (W (Int.tmod (W (Int.tmod (W th) 4 + 1)) 4 + 1)) (W ver))) (2 * 12 + 5 + 2 * 4 + 3 * Int.tmod (W th) 4 + 2))]), some (.ints (some .u64) (putI (putI (List.replicate (Int.toNat (2 * 12 + 5 * 4 + 6)) 0) (W (1 + Int.tmod (W nd) 12)) (putV 7 9 false (W (Int.tmod (W (Int.tmod (W th) 4 + 1)) 4 + 1)) (W ver))) (2 * 12 + 5 + 2 * 4 + 3 * Int.tmod (W th) 4 + 2) (dPutV (3 % 4096) (W (1 + Int.tmod (W nd) 12) % 512) (W ver % 262144) (Int.tmod (W nx) 13 % 512) mk (2 % 8) (W va % 1024))))] else K (.tup [.ptr 0 0, .agg [.int .i64 4, .int .i64 12], .agg [.int .i64 1, .int .i64 2, .int .i64 7]]) [some (.cells [.int .i64 4, .int .i64 12, .slice 1 0 (List.length (putI (putI (List.replicate (Int.toNat (2 * 12 + 5 * 4 + 6)) 0) (W (1 + Int.tmod (W nd) 12)) (putV 7 9 false (W (Int.tmod (W (Int.tmod (W th) 4 + 1)) 4 + 1)) (W ver))) (2 * 12 + 5 + 2 * 4 + 3 * Int.tmod (W th) 4 + 2) (dPutV (3 % 4096) (W (1 + Int.tmod (W nd) 12) % 512) (W ver % 262144) (Int.tmod (W nx) 13 % 512) mk (2 % 8) (W va % 1024)))) 1, .int .i64 (0 + 1 + 1), .int .i64 2, .int .i64 (2 * 12 + 5 + 2 * 4 + 3 * Int.tmod (W th) 4 + 2), .int .u64 (peek (putI (List.replicate (Int.toNat (2 * 12 + 5 * 4 + 6)) 0) (W (1 + Int.tmod (W nd) 12)) (putV 7 9 false (W (Int.tmod (W (Int.tmod (W th) 4 + 1)) 4 + 1)) (W ver))) (2 * 12 + 5 + 2 * 4 + 3 * Int.tmod (W th) 4 + 2)), .int .u64 (bif inB (putI (List.replicate (Int.toNat (2 * 12 + 5 * 4 + 6)) 0) (W (1 + Int.tmod (W nd) 12)) (putV 7 9 false (W (Int.tmod (W (Int.tmod (W th) 4 + 1)) 4 + 1)) (W ver))) (2 * 12 + 5 + 2 * 4 + 3 * Int.tmod (W th) 4 + 2) then dPutV (3 % 4096) (W (1 + Int.tmod (W nd) 12) % 512) (W ver % 262144) (Int.tmod (W nx) 13 % 512) mk (2 % 8) (W va % 1024) else 0), .bool (inB (putI (List.replicate (Int.toNat (2 * 12 + 5 * 4 + 6)) 0) (W (1 + Int.tmod (W nd) 12)) (putV 7 9 false (W (Int.tmod (W (Int.tmod (W th) 4 + 1)) 4 + 1)) (W ver))) (2 * 12 + 5 + 2 * 4 + 3 * Int.tmod (W th) 4 + 2))]), some (.ints (some .u64) (putI (putI (List.replicate (Int.toNat (2 * 12 + 5 * 4 + 6)) 0) (W (1 + Int.tmod (W nd) 12)) (putV 7 9 false (W (Int.tmod (W (Int.tmod (W th) 4 + 1)) 4 + 1)) (W ver))) (2 * 12 + 5 + 2 * 4 + 3 * Int.tmod (W th) 4 + 2) (dPutV (3 % 4096) (W (1 + Int.tmod (W nd) 12) % 512) (W ver % 262144) (Int.tmod (W nx) 13 % 512) mk (2 % 8) (W va % 1024))))] else (((0 : Int) ≤ (7 : Int) ∧ (7 : Int) < (1024 : Int)) ∧ ((0 : Int) ≤ (9 : Int) ∧ (9 : Int) < (512 : Int)) ∧ ((0 : Int) ≤ (0 : Int) ∧ (0 : Int) < (32 : Int)) ∧ (0 : Int) ≤ W ver ∧ W ver < (262144 : Int)) ∧ (50 = 50 ∧ (0 : Int) ≤ (0 : Int) ∧ (0 : Int) ≤ (4611686018427387904 : Int)) ∧ ((((0 : Int) ≤ (4 : Int) ∧ (4 : Int) ≤ (100000 : Int)) ∧ ((0 : Int) ≤ (12 : Int) ∧ (12 : Int) ≤ (100000 : Int)) ∧ (-1099511627776 : Int) ≤ Int.tmod (W th) 4 ∧ Int.tmod (W th) (4 : Int) ≤ (1099511627776 : Int)) ∧ True) ∧ (((0 : Int) ≤ (3 : Int) ∧ (3 : Int) ≤ (1000000 : Int)) ∧ ((0 : Int) ≤ W (1 + Int.tmod (W nd) 12) ∧ W (1 + Int.tmod (W nd) 12) ≤ (1000000 : Int)) ∧ ((0 : Int) ≤ W ver ∧ W ver ≤ (1000000 : Int)) ∧ ((0 : Int) ≤ Int.tmod (W nx) 13 ∧ Int.tmod (W nx) (13 : Int) ≤ (1000000 : Int)) ∧ ((0 : Int) ≤ (2 : Int) ∧ (2 : Int) ≤ (1000000 : Int)) ∧ (0 : Int) ≤ W va ∧ W va ≤ (1000000 : Int)) ∧ ((List.length (putI (List.replicate (Int.toNat (2 * 12 + 5 * 4 + 6)) 0) (W (1 + Int.tmod (W nd) 12)) (putV 7 9 false 0 (W ver))) = List.length (putI (List.replicate (Int.toNat (2 * 12 + 5 * 4 + 6)) 0) (W (1 + Int.tmod (W nd) 12)) (putV 7 9 false 0 (W ver))) ∧ (0 : Int) ≤ (0 : Int) + 1 ∧ 0 + (1 : Int) ≤ (4611686018427387904 : Int)) ∧ True) ∧ (3 : Int) ≠ (0 : Int) ∧ bif ieq (Int.tmod do' 3) 1 then K (.tup [.ptr 0 0, .agg [.int .i64 4, .int .i64 12], .agg [.int .i64 4, .int .i64 4, .int .i64 1]]) [some (.cells [.int .i64 4, .int .i64 12, .slice 1 0 (List.length (putI (putI (List.replicate (Int.toNat (2 * 12 + 5 * 4 + 6)) 0) (W (1 + Int.tmod (W nd) 12)) (putV 7 9 false 0 (W ver))) (2 * 12 + 5 + 2 * 4 + 3 * Int.tmod (W th) 4 + 2) (dPutV (3 % 4096) (W (1 + Int.tmod (W nd) 12) % 512) (W ver % 262144) (Int.tmod (W nx) 13 % 512) mk (2 % 8) (W va % 1024)))) 1, .int .i64 (0 + 1 + 1), .int .i64 2, .int .i64 (2 * 12 + 5 + 2 * 4 + 3 * Int.tmod (W th) 4 + 2), .int .u64 (peek (putI (List.replicate (Int.toNat (2 * 12 + 5 * 4 + 6)) 0) (W (1 + Int.tmod (W nd) 12)) (putV 7 9 false 0 (W ver))) (2 * 12 + 5 + 2 * 4 + 3 * Int.tmod (W th) 4 + 2)), .int .u64 (bif inB (putI (List.replicate (Int.toNat (2 * 12 + 5 * 4 + 6)) 0) (W (1 + Int.tmod (W nd) 12)) (putV 7 9 false 0 (W ver))) (2 * 12 + 5 + 2 * 4 + 3 * Int.tmod (W th) 4 + 2) then dPutV (3 % 4096) (W (1 + Int.tmod (W nd) 12) % 512) (W ver % 262144) (Int.tmod (W nx) 13 % 512) mk (2 % 8) (W va % 1024) else 0), .bool (inB (putI (List.replicate (Int.toNat (2 * 12 + 5 * 4 + 6)) 0) (W (1 + Int.tmod (W nd) 12)) (putV 7 9 false 0 (W ver))) (2 * 12 + 5 + 2 * 4 + 3 * Int.tmod (W th) 4 + 2))]), some (.ints (some .u64) (putI (putI (List.replicate (Int.toNat (2 * 12 + 5 * 4 + 6)) 0) (W (1 + Int.tmod (W nd) 12)) (putV 7 9 false 0 (W ver))) (2 * 12 + 5 + 2 * 4 + 3 * Int.tmod (W th) 4 + 2) (dPutV (3 % 4096) (W (1 + Int.tmod (W nd) 12) % 512) (W ver % 262144) (Int.tmod (W nx) 13 % 512) mk (2 % 8) (W va % 1024))))] else bif ieq (Int.tmod do' 3) 2 then K (.tup [.ptr 0 0, .agg [.int .i64 4, .int .i64 12], .agg [.int .i64 4, .int .i64 5, .int .i64 0]]) [some (.cells [.int .i64 4, .int .i64 12, .slice 1 0 (List.length (putI (putI (List.replicate (Int.toNat (2 * 12 + 5 * 4 + 6)) 0) (W (1 + Int.tmod (W nd) 12)) (putV 7 9 false 0 (W ver))) (2 * 12 + 5 + 2 * 4 + 3 * Int.tmod (W th) 4 + 2) (dPutV (3 % 4096) (W (1 + Int.tmod (W nd) 12) % 512) (W ver % 262144) (Int.tmod (W nx) 13 % 512) mk (2 % 8) (W va % 1024)))) 1, .int .i64 (0 + 1 + 1), .int .i64 2, .int .i64 (2 * 12 + 5 + 2 * 4 + 3 * Int.tmod (W th) 4 + 2), .int .u64 (peek (putI (List.replicate (Int.toNat (2 * 12 + 5 * 4 + 6)) 0) (W (1 + Int.tmod (W nd) 12)) (putV 7 9 false 0 (W ver))) (2 * 12 + 5 + 2 * 4 + 3 * Int.tmod (W th) 4 + 2)), .int .u64 (bif inB (putI (List.replicate (Int.toNat (2 * 12 + 5 * 4 + 6)) 0) (W (1 + Int.tmod (W nd) 12)) (putV 7 9 false 0 (W ver))) (2 * 12 + 5 + 2 * 4 + 3 * Int.tmod (W th) 4 + 2) then dPutV (3 % 4096) (W (1 + Int.tmod (W nd) 12) % 512) (W ver % 262144) (Int.tmod (W nx) 13 % 512) mk (2 % 8) (W va % 1024) else 0), .bool (inB (putI (List.replicate (Int.toNat (2 * 12 + 5 * 4 + 6)) 0) (W (1 + Int.tmod (W nd) 12)) (putV 7 9 false 0 (W ver))) (2 * 12 + 5 + 2 * 4 + 3 * Int.tmod (W th) 4 + 2))]), some (.ints (some .u64) (putI (putI (List.replicate (Int.toNat (2 * 12 + 5 * 4 + 6)) 0) (W (1 + Int.tmod (W nd) 12)) (putV 7 9 false 0 (W ver))) (2 * 12 + 5 + 2 * 4 + 3 * Int.tmod (W th) 4 + 2) (dPutV (3 % 4096) (W (1 + Int.tmod (W nd) 12) % 512) (W ver % 262144) (Int.tmod (W nx) 13 % 512) mk (2 % 8) (W va % 1024))))] else K (.tup [.ptr 0 0, .agg [.int .i64 4, .int .i64 12], .agg [.int .i64 1, .int .i64 2, .int .i64 7]]) [some (.cells [.int .i64 4, .int .i64 12, .slice 1 0 (List.length (putI (putI (List.replicate (Int.toNat (2 * 12 + 5 * 4 + 6)) 0) (W (1 + Int.tmod (W nd) 12)) (putV 7 9 false 0 (W ver))) (2 * 12 + 5 + 2 * 4 + 3 * Int.tmod (W th) 4 + 2) (dPutV (3 % 4096) (W (1 + Int.tmod (W nd) 12) % 512) (W ver % 262144) (Int.tmod (W nx) 13 % 512) mk (2 % 8) (W va % 1024)))) 1, .int .i64 (0 + 1 + 1), .int .i64 2, .int .i64 (2 * 12 + 5 + 2 * 4 + 3 * Int.tmod (W th) 4 + 2), .int .u64 (peek (putI (List.replicate (Int.toNat (2 * 12 + 5 * 4 + 6)) 0) (W (1 + Int.tmod (W nd) 12)) (putV 7 9 false 0 (W ver))) (2 * 12 + 5 + 2 * 4 + 3 * Int.tmod (W th) 4 + 2)), .int .u64 (bif inB (putI (List.replicate (Int.toNat (2 * 12 + 5 * 4 + 6)) 0) (W (1 + Int.tmod (W nd) 12)) (putV 7 9 false 0 (W ver))) (2 * 12 + 5 + 2 * 4 + 3 * Int.tmod (W th) 4 + 2) then dPutV (3 % 4096) (W (1 + Int.tmod (W nd) 12) % 512) (W ver % 262144) (Int.tmod (W nx) 13 % 512) mk (2 % 8) (W va % 1024) else 0), .bool (inB (putI (List.replicate (Int.toNat (2 * 12 + 5 * 4 + 6)) 0) (W (1 + Int.tmod (W nd) 12)) (putV 7 9 false 0 (W ver))) (2 * 12 + 5 + 2 * 4 + 3 * Int.tmod (W th) 4 + 2))]), some (.ints (some .u64) (putI (putI (List.replicate (Int.toNat (2 * 12 + 5 * 4 + 6)) 0) (W (1 + Int.tmod (W nd) 12)) (putV 7 9 false 0 (W ver))) (2 * 12 + 5 + 2 * 4 + 3 * Int.tmod (W th) 4 + 2) (dPutV (3 % 4096) (W (1 + Int.tmod (W nd) 12) % 512) (W ver % 262144) (Int.tmod (W nx) 13 % 512) mk (2 % 8) (W va % 1024))))]
theorem prop_print (th nd nx ver od do' va : Int) (mk : Bool) (K : AVal → Heap Ob → Prop) (h : propVC th nd nx ver od do' va mk K) : CallOk (obI tbl) Try.prog 17 [.agg [.int .u8 th, .int .u8 nd, .int .u8 nx, .int .u16 ver, .bool mk, .int .u8 od, .int .u8 do', .int .u8 va]] [] K := by
  refine CallOk.trim (callOk_of (E := EX5) Try.checked.mixed (L := LL) (n := 10) (of_nf (q := propVC th nd nx ver od do' va mk K) (by kernel_rfl) h))
end Go.Sh.XX

namespace Go.Sh.XX
open Go Go.Proofs
variable [Con]
def prW (od ver : Int) : Int := bif ieq (Int.tmod od 3) 1 then ver + 1 else ver
def prC (od th : Int) : Int := bif ieq (Int.tmod od 3) 1 then 0 else bif ieq (Int.tmod od 3) 2 then Int.tmod (Int.tmod th 4 + 1) 4 + 1 else 0
def prSh (do' : Int) : Int := bif ieq (Int.tmod do' 3) 1 then 4 else bif ieq (Int.tmod do' 3) 2 then 4 else 1
def prKd (do' : Int) : Int := bif ieq (Int.tmod do' 3) 1 then 4 else bif ieq (Int.tmod do' 3) 2 then 5 else 2
def prKy (do' : Int) : Int := bif ieq (Int.tmod do' 3) 1 then 1 else bif ieq (Int.tmod do' 3) 2 then 0 else 7
def prOf (th nd nx ver od do' va : Int) (mk : Bool) : PR := ⟨Int.tmod th 4, 1 + Int.tmod nd 12, Int.tmod nx 13, ver, va, mk, prW od ver, prC od th, prSh do', prKd do', prKy do'⟩
theorem tm_in {x m : Int} (h : 0 ≤ x) (hm : 0 < m) : 0 ≤ Int.tmod x m ∧ Int.tmod x m < m := by
  rw [Int.tmod_eq_emod_of_nonneg h]
  exact ⟨Int.emod_nonneg _ (by omega), Int.emod_lt_of_pos _ hm⟩
theorem prOf_ok {th nd nx ver od do' va : Int} {mk : Bool} (h1 : 0 ≤ th ∧ th ≤ 255) (h2 : 0 ≤ nd ∧ nd ≤ 255) (h3 : 0 ≤ nx ∧ nx ≤ 255) (h4 : 0 ≤ ver ∧ ver ≤ 65535) (h7 : 0 ≤ va ∧ va ≤ 255) : okPR (prOf th nd nx ver od do' va mk) := by
  have a := tm_in h1.1 (show (0 : Int) < 4 by decide)
  have b := tm_in h2.1 (show (0 : Int) < 12 by decide)
  have c := tm_in h3.1 (show (0 : Int) < 13 by decide)
  have d := tm_in (x := Int.tmod th 4 + 1) (by omega) (show (0 : Int) < 4 by decide)
  refine ⟨?_, ?_, ?_, ?_, ?_, ?_, ?_⟩
  · show 0 ≤ Int.tmod th 4 ∧ Int.tmod th 4 ≤ 3; omega
  · show 1 ≤ 1 + Int.tmod nd 12 ∧ 1 + Int.tmod nd 12 ≤ 12; omega
  · show 0 ≤ Int.tmod nx 13 ∧ Int.tmod nx 13 ≤ 12; omega
  · exact h4
  · exact h7
  · show 0 ≤ prW od ver ∧ prW od ver ≤ 65536
    unfold prW
    cases ieq (Int.tmod od 3) 1 <;> simp only [cond_true, cond_false] <;> omega
  · show 0 ≤ prC od th ∧ prC od th ≤ 4
    unfold prC
    cases ieq (Int.tmod od 3) 1 <;> cases ieq (Int.tmod od 3) 2 <;> simp only [cond_true, cond_false] <;> omega
theorem put_zero (a : Int) (n : Nat) : putI (List.replicate n 0) a 0 = List.replicate n (0 : Int) := by
  unfold putI
  split
  · apply List.ext_getElem
    · simp
    · intro i h1 h2
      simp [List.getElem_set]
  · rfl
theorem peek_zero (a : Int) (n : Nat) : peek (List.replicate n (0 : Int)) a = 0 := by
  unfold peek
  split
  · simp [List.getD_eq_getElem?_getD, List.getElem?_replicate]
    first | done | (split <;> rfl)
  · rfl
theorem XM0 (p : PR) (w d : Int) : putI (putI (List.replicate 50 0) p.A w) (39 + 3 * p.U) d = XM p w d 0 := by
  unfold XM; rw [put_zero]
def PS0 (p : PR) : MS := ⟨4, 12, XM p (XW p 9 false p.C p.W) (XD p 2) 0, 0 + 1 + 1, 2, 39 + 3 * p.U, 0, XD p 2, true⟩
set_option maxHeartbeats 0 in
theorem prop_sum {th nd nx ver od do' va : Int} {mk : Bool} (h1 : 0 ≤ th ∧ th ≤ 255) (h2 : 0 ≤ nd ∧ nd ≤ 255) (h3 : 0 ≤ nx ∧ nx ≤ 255) (h4 : 0 ≤ ver ∧ ver ≤ 65535) (h7 : 0 ≤ va ∧ va ≤ 255) (K : AVal → Heap Ob → Prop) (hK : K (.tup [.ptr 0 0, .agg [.int .i64 4, .int .i64 12], .agg [.int .i64 (prSh do'), .int .i64 (prKd do'), .int .i64 (prKy do')]]) [memC 1 (PS0 (prOf th nd nx ver od do' va mk)), memX (PS0 (prOf th nd nx ver od do' va mk))]) : propVC th nd nx ver od do' va mk K := by
  have hp := prOf_ok (od := od) (do' := do') (mk := mk) h1 h2 h3 h4 h7
  have a := tm_in h1.1 (show (0 : Int) < 4 by decide)
  have b := tm_in h2.1 (show (0 : Int) < 12 by decide)
  have c := tm_in h3.1 (show (0 : Int) < 13 by decide)
  have d := tm_in (x := Int.tmod th 4 + 1) (by omega) (show (0 : Int) < 4 by decide)
  have e1 : W th = th := W_id (by omega)
  have e2 : W nd = nd := W_id (by omega)
  have e3 : W nx = nx := W_id (by omega)
  have e4 : W ver = ver := W_id (by omega)
  have e5 : W va = va := W_id (by omega)
  have e6 : W (ver + 1) = ver + 1 := W_id (by omega)
  have e7 : W (1 + Int.tmod nd 12) = 1 + Int.tmod nd 12 := W_id (by omega)
  have e8 : W (Int.tmod th 4 + 1) = Int.tmod th 4 + 1 := W_id (by omega)
  have e9 : W (Int.tmod (Int.tmod th 4 + 1) 4 + 1) = Int.tmod (Int.tmod th 4 + 1) 4 + 1 := W_id (by omega)
  have f1 : (2 * 12 + 5 + 2 * 4 + 3 * Int.tmod th 4 + 2 : Int) = 39 + 3 * Int.tmod th 4 := by omega
  have f2 : Int.toNat (2 * 12 + 5 * 4 + 6) = 50 := by decide
  have f3 : ∀ w, dPutV (3 % 4096) ((1 + Int.tmod nd 12) % 512) (ver % 262144) (Int.tmod nx 13 % 512) mk (2 % 8) (va % 1024) = XD (prOf th nd nx ver od do' va mk) w → True := fun _ _ => trivial
  have f4 : dPutV (3 % 4096) ((1 + Int.tmod nd 12) % 512) (ver % 262144) (Int.tmod nx 13 % 512) mk (2 % 8) (va % 1024) = XD (prOf th nd nx ver od do' va mk) 2 := by
    rw [show (3 % 4096 : Int) = 3 by decide, show (2 % 8 : Int) = 2 by decide, Int.emod_eq_of_lt (a := 1 + Int.tmod nd 12) (by omega) (by omega), Int.emod_eq_of_lt (a := ver) (by omega) (by omega), Int.emod_eq_of_lt (a := Int.tmod nx 13) (by omega) (by omega), Int.emod_eq_of_lt (a := va) (by omega) (by omega)]
    rfl
  have f5 : ∀ w, putI (putI (List.replicate 50 0) (1 + Int.tmod nd 12) w) (39 + 3 * Int.tmod th 4) (XD (prOf th nd nx ver od do' va mk) 2) = XM (prOf th nd nx ver od do' va mk) w (XD (prOf th nd nx ver od do' va mk) 2) 0 := fun w => XM0 (prOf th nd nx ver od do' va mk) w _
  have f6 : ∀ w, peek (putI (List.replicate 50 0) (1 + Int.tmod nd 12) w) (39 + 3 * Int.tmod th 4) = 0 := fun w => by rw [peek_putI_ne (by omega), peek_zero]
  have f7 : ∀ w, inB (putI (List.replicate 50 (0 : Int)) (1 + Int.tmod nd 12) w) (39 + 3 * Int.tmod th 4) = true := fun w => casB_in (x := 0) (cas_in (by rw [putI_length, List.length_replicate]; omega) (f6 w))
  have f8 : rightB 4 12 = true := rightB_true.2 (by decide)
  unfold propVC
  simp only [e1, e2, e3, e4, e5, e6, e7, e8, e9, f1, f2, f4, f5, f6, f7, f8, XM_len, cond_true, Bool.not_true, cond_false, putI_length, List.length_replicate]
  unfold PS0 at hK
  dsimp only [memC, memX] at hK
  simp only [XM_len] at hK
  have g : prW od ver = bif ieq (Int.tmod od 3) 1 then ver + 1 else ver := rfl
  have g2 : prC od th = bif ieq (Int.tmod od 3) 1 then 0 else bif ieq (Int.tmod od 3) 2 then Int.tmod (Int.tmod th 4 + 1) 4 + 1 else 0 := rfl
  have g3 : prSh do' = bif ieq (Int.tmod do' 3) 1 then 4 else bif ieq (Int.tmod do' 3) 2 then 4 else 1 := rfl
  have g4 : prKd do' = bif ieq (Int.tmod do' 3) 1 then 4 else bif ieq (Int.tmod do' 3) 2 then 5 else 2 := rfl
  have g5 : prKy do' = bif ieq (Int.tmod do' 3) 1 then 1 else bif ieq (Int.tmod do' 3) 2 then 0 else 7 := rfl
  have g6 : (prOf th nd nx ver od do' va mk).C = prC od th := rfl
  have g7 : (prOf th nd nx ver od do' va mk).W = prW od ver := rfl
  rw [g6, g7, g, g2, g3, g4, g5] at hK
  cases b1 : ieq (Int.tmod od 3) 1 <;> cases b2 : ieq (Int.tmod od 3) 2 <;> cases b3 : ieq (Int.tmod do' 3) 1 <;> cases b4 : ieq (Int.tmod do' 3) 2
  all_goals
    simp only [b1, b2, b3, b4, cond_true, cond_false] at hK ⊢
    repeat' first
      | with_reducible exact hK
      | with_reducible apply And.intro
      | with_reducible trivial
      | omega
      | (exact hK)
end Go.Sh.XX

namespace Go.Sh
open Go Go.Proofs
variable [Con]
structure Rd (s s' : MS) : Prop where
  t : s'.t = s.t
  n : s'.n = s.n
  c : s'.c = s.c + 1
  xs : s'.xs = s.xs
structure Cs (s s' : MS) (a o v : Int) : Prop where
  t : s'.t = s.t
  n : s'.n = s.n
  c : s'.c = s.c + 1
  xs : s'.xs = bif casB s.xs a o then putI s.xs a v else s.xs
theorem ieqR (x : Int) : ieq x x = true := by rw [ieq_eq]; simp
theorem ieqN {a b : Int} (h : a ≠ b) : ieq a b = false := by rw [ieq_eq]; simpa using h
theorem newer_eq {v : Int} : newerI v = (v + 1) % 262144 := by unfold newerI; rfl
theorem fitC (x a w : Int) : fitI (cutI x a w) w = true := fitI_true.2 cutI_in
abbrev dsA (u : Int) : Int := 2 * 12 + 5 + 2 * 4 + 3 * u + 2
theorem exL {a : EXS} {s : MS} {D : Int} (h0 : a.at' = 0) (ho : a.only = false) (hD : peek s.xs (dsA a.u) = D) : ∃ s', Rd s s' ∧ exF 4 12 a s =
    bif ieq (cutI D 49 3) 2 then ⟨false, { a with at' := 1, found := D }, s'⟩ else bif ieq (cutI D 49 3) 3 then ⟨false, { a with at' := 5, found := D }, s'⟩ else bif ieq (cutI D 49 3) 4 then ⟨false, { a with at' := 8, found := D }, s'⟩ else ⟨true, { a with at' := 0, found := D }, s'⟩ := by
  obtain ⟨popped, gave, u, sh, kd, ky, only, att, at', found, word⟩ := a
  dsimp only at h0 ho hD
  subst h0 ho hD
  refine ⟨⟨s.t, s.n, s.xs, s.c + 1, 1, dsA u, peek s.xs (dsA u), peek s.xs (dsA u), inB s.xs (dsA u)⟩, ⟨rfl, rfl, rfl, rfl⟩, ?_⟩
  show (exT_0 4 12 _ s).val = _
  unfold exT_0
  simp only [Tr.val, cond_false]
theorem exK1 {a : EXS} {s : MS} {w : Int} (h0 : a.at' = 1) (hw : peek s.xs (cutI a.found 12 9) = w) : ∃ s', Rd s s' ∧ exF 4 12 a s =
    bif ieq (cutI w 25 18) (cutI a.found 21 18) then (bif ieq (cutI w 20 5) 0 then ⟨false, { a with at' := 2, word := w }, s'⟩ else bif ieq (cutI w 20 5) (W (a.u + 1)) then ⟨false, { a with at' := 3, word := w }, s'⟩ else ⟨false, { a with at' := 4, word := w }, s'⟩) else ⟨false, { a with at' := 4, word := w }, s'⟩ := by
  obtain ⟨popped, gave, u, sh, kd, ky, only, att, at', found, word⟩ := a
  dsimp only at h0 hw
  subst h0 hw
  refine ⟨⟨s.t, s.n, s.xs, s.c + 1, 1, cutI found 12 9, peek s.xs (cutI found 12 9), peek s.xs (cutI found 12 9), inB s.xs (cutI found 12 9)⟩, ⟨rfl, rfl, rfl, rfl⟩, ?_⟩
  show (exT_1 4 12 _ s).val = _
  unfold exT_1
  simp only [Tr.val]
  cases ieq (cutI (peek s.xs (cutI found 12 9)) 25 18) (cutI found 21 18) <;> cases ieq (cutI (peek s.xs (cutI found 12 9)) 20 5) 0 <;> cases ieq (cutI (peek s.xs (cutI found 12 9)) 20 5) (W (u + 1)) <;> rfl
theorem exK5 {a : EXS} {s : MS} {w : Int} (h0 : a.at' = 5) (hw : peek s.xs (cutI a.found 12 9) = w) : ∃ s', Rd s s' ∧ exF 4 12 a s =
    bif ieq (cutI w 25 18) (cutI a.found 21 18) then (bif ieq (cutI w 20 5) 0 then ⟨false, { a with at' := 7, word := w }, s'⟩ else bif ieq (cutI w 20 5) (W (a.u + 1)) then ⟨false, { a with at' := 6, word := w }, s'⟩ else ⟨false, { a with at' := 7, word := w }, s'⟩) else ⟨false, { a with at' := 7, word := w }, s'⟩ := by
  obtain ⟨popped, gave, u, sh, kd, ky, only, att, at', found, word⟩ := a
  dsimp only at h0 hw
  subst h0 hw
  refine ⟨⟨s.t, s.n, s.xs, s.c + 1, 1, cutI found 12 9, peek s.xs (cutI found 12 9), peek s.xs (cutI found 12 9), inB s.xs (cutI found 12 9)⟩, ⟨rfl, rfl, rfl, rfl⟩, ?_⟩
  show (exT_5 4 12 _ s).val = _
  unfold exT_5
  simp only [Tr.val]
  cases ieq (cutI (peek s.xs (cutI found 12 9)) 25 18) (cutI found 21 18) <;> cases ieq (cutI (peek s.xs (cutI found 12 9)) 20 5) 0 <;> cases ieq (cutI (peek s.xs (cutI found 12 9)) 20 5) (W (u + 1)) <;> rfl
def csM (s : MS) (a o v : Int) : MS := ⟨s.t, s.n, bif casB s.xs a o then putI s.xs a v else s.xs, s.c + 1, 3, a, peek s.xs a, bif inB s.xs a then v else 0, casB s.xs a o⟩
theorem csM_Cs (s : MS) (a o v : Int) : Cs s (csM s a o v) a o v := ⟨rfl, rfl, rfl, rfl⟩
theorem exC2 {a : EXS} {s : MS} (h0 : a.at' = 2) (hu : 0 ≤ a.u ∧ a.u ≤ 3) : exF 4 12 a s =
    ⟨true, { a with popped := bif casB s.xs (cutI a.found 12 9) a.word && popsB a.sh a.kd then cutI a.word 10 9 else a.popped }, csM s (cutI a.found 12 9) a.word (putV (cutI a.word 0 10) (cutI a.found 39 9) (ieq (cutI a.found 48 1) 1) (a.u + 1) (cutI a.word 25 18))⟩ := by
  obtain ⟨popped, gave, u, sh, kd, ky, only, att, at', found, word⟩ := a
  dsimp only at h0 hu
  subst h0
  have f1 : fitI (u + 1) 5 = true := fitI_true.2 ⟨by omega, by show u + 1 < 32; omega⟩
  show (exT_2 4 12 _ s).val = _
  unfold exT_2 csM
  cases hc : casB s.xs (cutI found 12 9) word with
  | true =>
    have hi : inB s.xs (cutI found 12 9) = true := by unfold casB at hc; exact (Bool.and_eq_true_iff.1 hc).1
    cases hp : popsB sh kd with
    | true => simp only [Tr.val, hc, hi, hp, fitC, f1, cond_true, Bool.and_true]
    | false => simp only [Tr.val, hc, hi, hp, fitC, f1, cond_true, cond_false, Bool.and_false]
  | false => simp only [Tr.val, hc, fitC, f1, cond_true, cond_false, Bool.false_and]
theorem exC3 {a : EXS} {s : MS} (h0 : a.at' = 3) (hd : dOk (cutI a.found 0 12) (cutI a.found 12 9) (cutI a.found 21 18) (cutI a.found 39 9) 3 (cutI a.found 52 10) = true) : exF 4 12 a s = ⟨true, a, csM s (dsA a.u) a.found (dPutV (cutI a.found 0 12) (cutI a.found 12 9) (cutI a.found 21 18) (cutI a.found 39 9) (ieq (cutI a.found 48 1) 1) 3 (cutI a.found 52 10))⟩ := by
  obtain ⟨popped, gave, u, sh, kd, ky, only, att, at', found, word⟩ := a
  dsimp only at h0 hd
  subst h0
  show (exT_3 4 12 _ s).val = _
  unfold exT_3 csM
  simp only [Tr.val, hd, cond_true]
theorem exC4 {a : EXS} {s : MS} (h0 : a.at' = 4) (hd : dOk (cutI a.found 0 12) (cutI a.found 12 9) (cutI a.found 21 18) (cutI a.found 39 9) 4 (cutI a.found 52 10) = true) : exF 4 12 a s = ⟨true, a, csM s (dsA a.u) a.found (dPutV (cutI a.found 0 12) (cutI a.found 12 9) (cutI a.found 21 18) (cutI a.found 39 9) (ieq (cutI a.found 48 1) 1) 4 (cutI a.found 52 10))⟩ := by
  obtain ⟨popped, gave, u, sh, kd, ky, only, att, at', found, word⟩ := a
  dsimp only at h0 hd
  subst h0
  show (exT_4 4 12 _ s).val = _
  unfold exT_4 csM
  simp only [Tr.val, hd, cond_true]
theorem exC7 {a : EXS} {s : MS} (h0 : a.at' = 7) (hd : dOk (cutI a.found 0 12) 0 0 0 5 (cutI a.found 52 10) = true) : exF 4 12 a s = ⟨true, a, csM s (dsA a.u) a.found (dPutV (cutI a.found 0 12) 0 0 0 true 5 (cutI a.found 52 10))⟩ := by
  obtain ⟨popped, gave, u, sh, kd, ky, only, att, at', found, word⟩ := a
  dsimp only at h0 hd
  subst h0
  show (exT_7 4 12 _ s).val = _
  unfold exT_7 csM
  simp only [Tr.val, hd, cond_true]
theorem exC6 {a : EXS} {s : MS} (h0 : a.at' = 6) : exF 4 12 a s = ⟨false, { a with at' := 7 }, csM s (cutI a.found 12 9) a.word (putV (cutI a.word 0 10) (cutI a.word 10 9) (ieq (cutI a.word 19 1) 1) 0 (newerI (cutI a.word 25 18)))⟩ := by
  obtain ⟨popped, gave, u, sh, kd, ky, only, att, at', found, word⟩ := a
  dsimp only at h0
  subst h0
  have f1 : fitI 0 5 = true := by decide
  have f2 : ∀ v : Int, fitI (newerI v) 18 = true := fun v => fitI_true.2 (by rw [newer_eq]; show 0 ≤ _ ∧ _ < 262144; omega)
  show (exT_6 4 12 _ s).val = _
  unfold exT_6 csM
  simp only [Tr.val, fitC, f1, f2, cond_true]
theorem exC8 {a : EXS} {s : MS} (h0 : a.at' = 8) (hd : dOk (attI (cutI a.found 0 12)) 0 0 0 1 0 = true) :
    exF 4 12 a s = ⟨bif casB s.xs (dsA a.u) a.found then (bif linksB a.kd then !nodeB 12 (cutI a.found 39 9) else true) else true, { a with at' := 9 }, csM s (dsA a.u) a.found (dPutV (attI (cutI a.found 0 12)) 0 0 0 false 1 0)⟩ := by
  obtain ⟨popped, gave, u, sh, kd, ky, only, att, at', found, word⟩ := a
  dsimp only at h0 hd
  subst h0
  show (exT_8 4 12 _ s).val = _
  unfold exT_8 csM
  cases hc : casB s.xs (dsA u) found with
  | false =>
    have hc' : casB s.3 (2 * 12 + 5 + 2 * 4 + 3 * u + 2) found = false := hc
    simp only [Tr.val, hc', hd, Bool.not_false, cond_true, cond_false]
  | true =>
    have hc' : casB s.3 (2 * 12 + 5 + 2 * 4 + 3 * u + 2) found = true := hc
    cases hl : linksB kd with
    | true => simp only [Tr.val, hc', hd, hl, Bool.not_true, Bool.not_false, cond_true, cond_false]
    | false => simp only [Tr.val, hc', hd, hl, Bool.not_true, Bool.not_false, cond_true, cond_false]
theorem exC9 {a : EXS} {s : MS} (h0 : a.at' = 9) : ∃ s', (s'.t = s.t ∧ s'.n = s.n ∧ s'.c = s.c + 1 ∧ s'.xs = putI s.xs (12 + 4 + cutI a.found 39 9) (WU (peek s.xs (12 + 4 + cutI a.found 39 9) + 1))) ∧ exF 4 12 a s = ⟨true, { a with gave := cutI a.found 39 9 }, s'⟩ := by
  obtain ⟨popped, gave, u, sh, kd, ky, only, att, at', found, word⟩ := a
  dsimp only at h0
  subst h0
  refine ⟨⟨s.t, s.n, putI s.xs (12 + 4 + cutI found 39 9) (WU (peek s.xs (12 + 4 + cutI found 39 9) + 1)), s.c + 1, 4, 12 + 4 + cutI found 39 9, peek s.xs (12 + 4 + cutI found 39 9), bif inB s.xs (12 + 4 + cutI found 39 9) then WU (peek s.xs (12 + 4 + cutI found 39 9) + 1) else 0, inB s.xs (12 + 4 + cutI found 39 9)⟩, ⟨rfl, rfl, rfl, rfl⟩, ?_⟩
  show (exT_9 4 12 _ s).val = _
  unfold exT_9
  simp only [Tr.val]
theorem ok_ite {b : Bool} {p q : Tr ExO} (hp : p.ok) (hq : q.ok) : (Tr.ite b p q).ok := by
  cases b
  · exact hq
  · exact hp
theorem ex_okE {a : EXS} {s : MS} (h0 : 0 ≤ a.at') (h9 : a.at' ≤ 9) (hu : 0 ≤ a.u ∧ a.u ≤ 3) (hc : 0 ≤ s.c ∧ s.c ≤ 1000000) : exOk 4 12 a s := by
  obtain ⟨popped, gave, u, sh, kd, ky, only, att, at', found, word⟩ := a
  dsimp only at h0 h9 hu
  have hcc : (0 : Int) ≤ s.4 ∧ s.4 ≤ 4611686018427387904 := by show 0 ≤ s.c ∧ s.c ≤ _; omega
  have hmm : (-1099511627776 : Int) ≤ u ∧ u ≤ 1099511627776 := by omega
  have h4 : (0 : Int) ≤ 4 ∧ (4 : Int) ≤ 100000 := by decide
  have h12 : (0 : Int) ≤ 12 ∧ (12 : Int) ≤ 100000 := by decide
  have cin : ∀ (x a w : Int), 0 ≤ cutI x a w := fun x a w => (cutI_in (x := x) (a := a) (w := w)).1
  have c12 : cutI found 0 12 ≤ 1000000 := by
    have : cutI found 0 12 < 2 ^ (12 : Int).toNat := (cutI_in (x := found) (a := 0) (w := 12)).2
    have e : (2 : Int) ^ (12 : Int).toNat = 4096 := by decide
    omega
  have c18 : cutI word 25 18 ≤ 1000000 := by
    have : cutI word 25 18 < 2 ^ (18 : Int).toNat := (cutI_in (x := word) (a := 25) (w := 18)).2
    have e : (2 : Int) ^ (18 : Int).toNat = 262144 := by decide
    omega
  have c9 : (-1099511627776 : Int) ≤ cutI found 39 9 ∧ cutI found 39 9 ≤ 1099511627776 := by
    have : cutI found 39 9 < 2 ^ (9 : Int).toNat := (cutI_in (x := found) (a := 39) (w := 9)).2
    have e : (2 : Int) ^ (9 : Int).toNat = 512 := by decide
    have := cin found 39 9
    omega
  have hus : (-1000000 : Int) ≤ u ∧ u ≤ 1000000 := by omega
  rcases (by omega : at' = 0 ∨ at' = 1 ∨ at' = 2 ∨ at' = 3 ∨ at' = 4 ∨ at' = 5 ∨ at' = 6 ∨ at' = 7 ∨ at' = 8 ∨ at' = 9) with rfl | rfl | rfl | rfl | rfl | rfl | rfl | rfl | rfl | rfl
  · show (exT_0 4 12 _ s).ok
    unfold exT_0
    repeat' (first | apply ok_ite | apply And.intro | exact trivial | exact rfl | exact hcc.1 | exact hcc.2 | exact hmm.1 | exact hmm.2 | decide | exact cin _ _ _ | exact c12 | exact c18 | exact c9.1 | exact c9.2 | exact hus.1 | exact hus.2)
  · show (exT_1 4 12 _ s).ok
    unfold exT_1
    repeat' (first | apply ok_ite | apply And.intro | exact trivial | exact rfl | exact hcc.1 | exact hcc.2 | exact hmm.1 | exact hmm.2 | decide | exact cin _ _ _ | exact c12 | exact c18 | exact c9.1 | exact c9.2 | exact hus.1 | exact hus.2)
  · show (exT_2 4 12 _ s).ok
    unfold exT_2
    repeat' (first | apply ok_ite | apply And.intro | exact trivial | exact rfl | exact hcc.1 | exact hcc.2 | exact hmm.1 | exact hmm.2 | decide | exact cin _ _ _ | exact c12 | exact c18 | exact c9.1 | exact c9.2 | exact hus.1 | exact hus.2)
  · show (exT_3 4 12 _ s).ok
    unfold exT_3
    repeat' (first | apply ok_ite | apply And.intro | exact trivial | exact rfl | exact hcc.1 | exact hcc.2 | exact hmm.1 | exact hmm.2 | decide | exact cin _ _ _ | exact c12 | exact c18 | exact c9.1 | exact c9.2 | exact hus.1 | exact hus.2)
  · show (exT_4 4 12 _ s).ok
    unfold exT_4
    repeat' (first | apply ok_ite | apply And.intro | exact trivial | exact rfl | exact hcc.1 | exact hcc.2 | exact hmm.1 | exact hmm.2 | decide | exact cin _ _ _ | exact c12 | exact c18 | exact c9.1 | exact c9.2 | exact hus.1 | exact hus.2)
  · show (exT_5 4 12 _ s).ok
    unfold exT_5
    repeat' (first | apply ok_ite | apply And.intro | exact trivial | exact rfl | exact hcc.1 | exact hcc.2 | exact hmm.1 | exact hmm.2 | decide | exact cin _ _ _ | exact c12 | exact c18 | exact c9.1 | exact c9.2 | exact hus.1 | exact hus.2)
  · show (exT_6 4 12 _ s).ok
    unfold exT_6
    repeat' (first | apply ok_ite | apply And.intro | exact trivial | exact rfl | exact hcc.1 | exact hcc.2 | exact hmm.1 | exact hmm.2 | decide | exact cin _ _ _ | exact c12 | exact c18 | exact c9.1 | exact c9.2 | exact hus.1 | exact hus.2)
  · show (exT_7 4 12 _ s).ok
    unfold exT_7
    repeat' (first | apply ok_ite | apply And.intro | exact trivial | exact rfl | exact hcc.1 | exact hcc.2 | exact hmm.1 | exact hmm.2 | decide | exact cin _ _ _ | exact c12 | exact c18 | exact c9.1 | exact c9.2 | exact hus.1 | exact hus.2)
  · show (exT_8 4 12 _ s).ok
    unfold exT_8
    repeat' (first | apply ok_ite | apply And.intro | exact trivial | exact rfl | exact hcc.1 | exact hcc.2 | exact hmm.1 | exact hmm.2 | decide | exact cin _ _ _ | exact c12 | exact c18 | exact c9.1 | exact c9.2 | exact hus.1 | exact hus.2)
  · show (exT_9 4 12 _ s).ok
    unfold exT_9
    repeat' (first | apply ok_ite | apply And.intro | exact trivial | exact rfl | exact hcc.1 | exact hcc.2 | exact hmm.1 | exact hmm.2 | decide | exact cin _ _ _ | exact c12 | exact c18 | exact c9.1 | exact c9.2 | exact hus.1 | exact hus.2)
end Go.Sh

namespace Go.Sh
open Go Go.Proofs
variable [Con]
open XX (PR okPR XM XW XD)
theorem XW_cuts (p : PR) {x c v : Int} {m : Bool} (hx : 0 ≤ x ∧ x < 512) (hc : 0 ≤ c ∧ c < 32) (hv : 0 ≤ v ∧ v < 262144) : cutI (XW p x m c v) 0 10 = 7 ∧ cutI (XW p x m c v) 10 9 = x ∧ cutI (XW p x m c v) 19 1 = bitI m ∧ cutI (XW p x m c v) 20 5 = c ∧ cutI (XW p x m c v) 25 18 = v := by
  have := XX.putOk_parts (k := 7) (x := x) (m := m) (c := c) (v := v) (by decide) hx hc hv
  exact ⟨this.1, this.2.1, this.2.2.1, this.2.2.2.1, this.2.2.2.2⟩
def matB (p : PR) : Bool := ieq p.C 0 && ieq p.W p.V
theorem matB_t {p : PR} (h : matB p = true) : p.C = 0 ∧ p.W = p.V := by
  unfold matB at h
  obtain ⟨a, b⟩ := Bool.and_eq_true_iff.1 h
  rw [ieq_eq] at a b
  exact ⟨by simpa using a, by simpa using b⟩
def vw0 (p : PR) : Int := XW p 9 false 0 p.V
def vw1 (p : PR) : Int := XW p p.N p.M (p.U + 1) p.V
def vw2 (p : PR) : Int := XW p p.N p.M 0 ((p.V + 1) % 262144)
def vdE (p : PR) : Int := dPutV 3 0 0 0 true 5 p.X
def vdN : Int := dPutV 4 0 0 0 false 1 0
def wA (p : PR) (ph : Nat) : Int := if ph = 0 then vw0 p else if ph ≤ 2 then vw1 p else vw2 p
def dA (p : PR) (ph : Nat) : Int := if ph ≤ 1 then XD p 2 else if ph ≤ 3 then XD p 3 else vdE p
structure MAC1 (p : PR) (a : EXS) : Prop where
  u : a.u = p.U
  sh : a.sh = p.sh
  kd : a.kd = p.kd
  on : a.only = false
  po : a.popped = 0
  ga : a.gave = 0
def atA (p : PR) (ph : Nat) (a : EXS) : Prop := a.at' = 0 ∨ (a.at' = 1 ∧ a.found = XD p 2) ∨ (a.at' = 2 ∧ a.found = XD p 2 ∧ a.word = vw0 p) ∨ (a.at' = 3 ∧ a.found = XD p 2 ∧ 1 ≤ ph) ∨ (a.at' = 4 ∧ a.found = XD p 2 ∧ 3 ≤ ph) ∨
  (a.at' = 5 ∧ a.found = XD p 3 ∧ 2 ≤ ph) ∨ (a.at' = 6 ∧ a.found = XD p 3 ∧ a.word = vw1 p ∧ 2 ≤ ph) ∨ (a.at' = 7 ∧ a.found = XD p 3 ∧ 3 ≤ ph)
theorem atA_mono {p : PR} {ph ph' : Nat} {a : EXS} (hle : ph ≤ ph') (h : atA p ph a) : atA p ph' a := by
  rcases h with h | h | h | ⟨h1, h2, h3⟩ | ⟨h1, h2, h3⟩ | ⟨h1, h2, h3⟩ | ⟨h1, h2, h3, h4⟩ | ⟨h1, h2, h3⟩
  · exact .inl h
  · exact .inr (.inl h)
  · exact .inr (.inr (.inl h))
  · exact .inr (.inr (.inr (.inl ⟨h1, h2, by omega⟩)))
  · exact .inr (.inr (.inr (.inr (.inl ⟨h1, h2, by omega⟩))))
  · exact .inr (.inr (.inr (.inr (.inr (.inl ⟨h1, h2, by omega⟩)))))
  · exact .inr (.inr (.inr (.inr (.inr (.inr (.inl ⟨h1, h2, h3, by omega⟩))))))
  · exact .inr (.inr (.inr (.inr (.inr (.inr (.inr ⟨h1, h2, by omega⟩))))))
def muA (ph : Nat) (a : Int) : Nat :=
  if 4 ≤ ph then 0 else
  if a = 0 then (if ph = 0 then 10 else if ph = 1 then 7 else if ph = 2 then 4 else 3) else
  if a = 1 then (if ph = 0 then 9 else if ph ≤ 2 then 6 else 5) else
  if a = 2 then (if ph ≤ 1 then 8 else if ph = 2 then 5 else 4) else
  if a = 3 then (if ph ≤ 2 then 5 else 4) else
  if a = 4 then 4 else
  if a = 5 then (if ph ≤ 2 then 3 else 2) else
  if a = 6 then 2 else 1
theorem muA_mono {ph ph' : Nat} (a : Int) (h : ph ≤ ph') : muA ph' a ≤ muA ph a := by
  unfold muA
  repeat' split
  all_goals omega
structure STP (p : PR) (s s' : MS) : Prop where
  t : s'.t = s.t
  n : s'.n = s.n
  c : s'.c = s.c + 1
section
variable {p : PR} (hp : okPR p)
include hp
theorem wN : (0 : Int) ≤ p.N ∧ p.N < 512 := by have := hp.hN; omega
theorem wV : (0 : Int) ≤ p.V ∧ p.V < 262144 := by have := hp.hV; omega
theorem wU : (0 : Int) ≤ p.U + 1 ∧ p.U + 1 < 32 := by have := hp.hU; omega
theorem vw0_cuts : cutI (vw0 p) 0 10 = 7 ∧ cutI (vw0 p) 10 9 = 9 ∧ cutI (vw0 p) 19 1 = bitI false ∧ cutI (vw0 p) 20 5 = 0 ∧ cutI (vw0 p) 25 18 = p.V := XW_cuts p (by decide) (by decide) (wV hp)
theorem vw1_cuts : cutI (vw1 p) 0 10 = 7 ∧ cutI (vw1 p) 10 9 = p.N ∧ cutI (vw1 p) 19 1 = bitI p.M ∧ cutI (vw1 p) 20 5 = p.U + 1 ∧ cutI (vw1 p) 25 18 = p.V := XW_cuts p (wN hp) (wU hp) (wV hp)
theorem vw2_cuts : cutI (vw2 p) 0 10 = 7 ∧ cutI (vw2 p) 10 9 = p.N ∧ cutI (vw2 p) 19 1 = bitI p.M ∧ cutI (vw2 p) 20 5 = 0 ∧ cutI (vw2 p) 25 18 = (p.V + 1) % 262144 := XW_cuts p (wN hp) (by decide) (by omega)
theorem vdE_cuts : cutI (vdE p) 49 3 = 5 := by
  have := hp.hX
  exact XX.dcut_e (dOk_true.2 (by omega))
theorem vdE_ok : dOk 3 0 0 0 5 p.X = true := by
  have := hp.hX
  exact dOk_true.2 (by omega)
theorem v01 : vw0 p ≠ vw1 p := by
  intro e
  have h0 := (vw0_cuts hp).2.2.2.1
  rw [e, (vw1_cuts hp).2.2.2.1] at h0
  have := hp.hU; omega
theorem v12 : vw1 p ≠ vw2 p := by
  intro e
  have h0 := (vw1_cuts hp).2.2.2.1
  rw [e, (vw2_cuts hp).2.2.2.1] at h0
  have := hp.hU; omega
theorem v02 : vw0 p ≠ vw2 p := by
  intro e
  have h0 := (vw0_cuts hp).2.2.2.2
  rw [e, (vw2_cuts hp).2.2.2.2] at h0
  have := hp.hV; omega
theorem d23 {e f : Int} (he : 0 ≤ e ∧ e < 8) (hf : 0 ≤ f ∧ f < 8) (h : e ≠ f) : XD p e ≠ XD p f := by
  intro q
  have h0 := (XX.XD_cuts p hp he).2.2.2.2.2.1
  rw [q, (XX.XD_cuts p hp hf).2.2.2.2.2.1] at h0
  exact h h0.symm
theorem dE3 {e : Int} (he : 0 ≤ e ∧ e < 8) (h : e ≠ 5) : vdE p ≠ XD p e := by
  intro q
  have h0 := vdE_cuts hp
  rw [q, (XX.XD_cuts p hp he).2.2.2.2.2.1] at h0
  exact h h0
omit hp in
theorem casN {xs : List Int} {a o : Int} (h : peek xs a ≠ o) : casB xs a o = false := by
  unfold casB
  rw [ieqN h, Bool.and_false]
theorem dsU {a : EXS} (h : a.u = p.U) : dsA a.u = 39 + 3 * p.U := by unfold dsA; rw [h]; omega
theorem casWt (w d l : Int) : casB (XM p w d l) p.A w = true := XX.XM_cw p hp w d l
theorem casDt (w d l : Int) : casB (XM p w d l) (39 + 3 * p.U) d = true := XX.XM_cd p hp w d l
theorem casWf {w o : Int} (d l : Int) (h : w ≠ o) : casB (XM p w d l) p.A o = false := casN (by rw [XX.XM_w p hp]; exact h)
theorem casDf {d o : Int} (w l : Int) (h : d ≠ o) : casB (XM p w d l) (39 + 3 * p.U) o = false := casN (by rw [XX.XM_d p hp]; exact h)

theorem stepA {ph : Nat} {a : EXS} {s : MS} {l : Int} (h4 : ph ≤ 4) (hx : s.xs = XM p (wA p ph) (dA p ph) l) (hm : MAC1 p a) (ha : atA p ph a) :
    ∃ ph', ph ≤ ph' ∧ ph' ≤ 4 ∧ ph' ≤ ph + 1 ∧ STP p s (exF 4 12 a s).s ∧ (exF 4 12 a s).s.xs = XM p (wA p ph') (dA p ph') l ∧ (exF 4 12 a s).x.gave = 0 ∧
      ((exF 4 12 a s).d = false → MAC1 p (exF 4 12 a s).x ∧ atA p ph' (exF 4 12 a s).x ∧ (0 < ph ∨ ph' = 0)) ∧
      ((exF 4 12 a s).d = true → (exF 4 12 a s).x.popped = if ph = 0 ∧ 0 < ph' ∧ popsB p.sh p.kd = true then 9 else 0) ∧
      (ph < 4 → muA ph' (if (exF 4 12 a s).d = true then 0 else (exF 4 12 a s).x.at') + 1 ≤ muA ph a.at') := by
  obtain ⟨mu, msh, mkd, mon, mpo, mga⟩ := hm
  have hU := hp.hU
  have hD : peek s.xs (dsA a.u) = dA p ph := by rw [dsU hp mu, hx, XX.XM_d p hp]
  have c2 := XX.XD_cuts p hp (e := 2) (by decide)
  have c3 := XX.XD_cuts p hp (e := 3) (by decide)
  have hwu : W (a.u + 1) = p.U + 1 := by rw [mu]; exact W_in (by omega)
  rcases ha with h | ⟨h, hf⟩ | ⟨h, hf, hw⟩ | ⟨h, hf, hg⟩ | ⟨h, hf, hg⟩ | ⟨h, hf, hg⟩ | ⟨h, hf, hw, hg⟩ | ⟨h, hf, hg⟩
  · -- it loads the descriptor
    obtain ⟨s', r, e⟩ := exL h mon hD
    rcases (by omega : ph ≤ 1 ∨ (2 ≤ ph ∧ ph ≤ 3) ∨ ph = 4) with q | q | q
    · have ed : dA p ph = XD p 2 := by unfold dA; rw [if_pos q]
      rw [ed, c2.2.2.2.2.2.1] at e
      have e : exF 4 12 a s = ⟨false, { a with at' := 1, found := XD p 2 }, s'⟩ := e
      rw [e]
      refine ⟨ph, Nat.le_refl _, h4, by omega, ⟨r.t, r.n, r.c⟩, by rw [r.xs]; exact hx, mga, fun _ => ⟨⟨mu, msh, mkd, mon, mpo, mga⟩, .inr (.inl ⟨rfl, rfl⟩), by omega⟩, fun h => by simp at h, fun _ => ?_⟩
      rw [h]; unfold muA; simp; repeat' split
      all_goals omega
    · have ed : dA p ph = XD p 3 := by unfold dA; rw [if_neg (by omega), if_pos q.2]
      rw [ed, c3.2.2.2.2.2.1] at e
      have e : exF 4 12 a s = ⟨false, { a with at' := 5, found := XD p 3 }, s'⟩ := e
      rw [e]
      refine ⟨ph, Nat.le_refl _, h4, by omega, ⟨r.t, r.n, r.c⟩, by rw [r.xs]; exact hx, mga, fun _ => ⟨⟨mu, msh, mkd, mon, mpo, mga⟩, .inr (.inr (.inr (.inr (.inr (.inl ⟨rfl, rfl, q.1⟩))))), by omega⟩, fun h => by simp at h, fun _ => ?_⟩
      rw [h]; unfold muA; simp; repeat' split
      all_goals omega
    · have ed : dA p ph = vdE p := by unfold dA; rw [if_neg (by omega), if_neg (by omega)]
      rw [ed, vdE_cuts hp] at e
      have e : exF 4 12 a s = ⟨true, { a with at' := 0, found := vdE p }, s'⟩ := e
      rw [e]
      exact ⟨ph, Nat.le_refl _, h4, by omega, ⟨r.t, r.n, r.c⟩, by rw [r.xs]; exact hx, mga, fun h => by simp at h, fun _ => by rw [if_neg (by omega)]; exact mpo, fun h => by omega⟩
  · -- it loads the word
    have hA : peek s.xs (cutI a.found 12 9) = wA p ph := by rw [hf, c2.2.1, hx, XX.XM_w p hp]
    obtain ⟨s', r, e⟩ := exK1 h hA
    rw [hwu, hf, c2.2.2.1] at e
    rcases (by omega : ph = 0 ∨ (1 ≤ ph ∧ ph ≤ 2) ∨ 3 ≤ ph) with q | q | q
    · have ew : wA p ph = vw0 p := by unfold wA; rw [if_pos q]
      have cc := vw0_cuts hp
      rw [ew, cc.2.2.2.2, cc.2.2.2.1, ieqR] at e
      have e : exF 4 12 a s = ⟨false, { a with at' := 2, found := XD p 2, word := vw0 p }, s'⟩ := e
      rw [e]
      refine ⟨ph, Nat.le_refl _, h4, by omega, ⟨r.t, r.n, r.c⟩, by rw [r.xs]; exact hx, mga, fun _ => ⟨⟨mu, msh, mkd, mon, mpo, mga⟩, .inr (.inr (.inl ⟨rfl, rfl, rfl⟩)), by omega⟩, fun h => by simp at h, fun _ => ?_⟩
      rw [h]; unfold muA; simp; repeat' split
      all_goals omega
    · have ew : wA p ph = vw1 p := by unfold wA; rw [if_neg (by omega), if_pos q.2]
      have cc := vw1_cuts hp
      rw [ew, cc.2.2.2.2, cc.2.2.2.1, ieqR, ieqR, ieqN (show p.U + 1 ≠ 0 by omega)] at e
      have e : exF 4 12 a s = ⟨false, { a with at' := 3, found := XD p 2, word := vw1 p }, s'⟩ := e
      rw [e]
      refine ⟨ph, Nat.le_refl _, h4, by omega, ⟨r.t, r.n, r.c⟩, by rw [r.xs]; exact hx, mga, fun _ => ⟨⟨mu, msh, mkd, mon, mpo, mga⟩, .inr (.inr (.inr (.inl ⟨rfl, rfl, q.1⟩))), by omega⟩, fun h => by simp at h, fun _ => ?_⟩
      rw [h]; unfold muA; simp; repeat' split
      all_goals omega
    · have ew : wA p ph = vw2 p := by unfold wA; rw [if_neg (by omega), if_neg (by omega)]
      have cc := vw2_cuts hp
      have hV := hp.hV
      rw [ew, cc.2.2.2.2, ieqN (show (p.V + 1) % 262144 ≠ p.V by omega)] at e
      have e : exF 4 12 a s = ⟨false, { a with at' := 4, found := XD p 2, word := vw2 p }, s'⟩ := e
      rw [e]
      refine ⟨ph, Nat.le_refl _, h4, by omega, ⟨r.t, r.n, r.c⟩, by rw [r.xs]; exact hx, mga, fun _ => ⟨⟨mu, msh, mkd, mon, mpo, mga⟩, .inr (.inr (.inr (.inr (.inl ⟨rfl, rfl, q⟩)))), by omega⟩, fun h => by simp at h, fun _ => ?_⟩
      rw [h]; unfold muA; simp; repeat' split
      all_goals omega
  · -- it claims
    have e := exC2 (s := s) h (by rw [mu]; exact hU)
    have cc := vw0_cuts hp
    rw [hf, c2.2.1, c2.2.2.2.1, c2.2.2.2.2.1, hw, cc.1, cc.2.1, cc.2.2.2.2, mu, msh, mkd, mpo] at e
    have q := csM_Cs s p.A (vw0 p) (putV 7 p.N p.M (p.U + 1) p.V)
    generalize csM s p.A (vw0 p) (putV 7 p.N p.M (p.U + 1) p.V) = s' at e q
    rw [e]
    have qx := q.xs
    by_cases h0 : ph = 0
    · have ew : wA p ph = vw0 p := by unfold wA; rw [if_pos h0]
      have ed : dA p ph = XD p 2 := by unfold dA; rw [if_pos (by omega)]
      rw [hx, ew, casWt hp, cond_true, XX.XM_putw p hp] at qx
      refine ⟨1, by omega, by omega, by omega, ⟨q.t, q.n, q.c⟩, ?_, mga, fun h => by simp at h, fun _ => ?_, fun _ => ?_⟩
      · show s'.xs = _
        rw [qx, ed]; rfl
      · show (bif casB s.xs p.A (vw0 p) && popsB p.sh p.kd then (9 : Int) else 0) = _
        rw [hx, ew, casWt hp]
        cases hpp : popsB p.sh p.kd with
        | true => rw [if_pos ⟨h0, by omega, rfl⟩]; rfl
        | false => rw [if_neg (by simp)]; rfl
      · rw [h, h0]; simp [muA]
    · have ew : wA p ph ≠ vw0 p := by
        unfold wA; rw [if_neg h0]
        split
        · exact fun e => v01 hp e.symm
        · exact fun e => v02 hp e.symm
      rw [hx, casWf hp _ _ ew, cond_false] at qx
      refine ⟨ph, Nat.le_refl _, h4, by omega, ⟨q.t, q.n, q.c⟩, qx, mga, fun h => by simp at h, fun _ => ?_, fun h4' => ?_⟩
      · show (bif casB s.xs p.A (vw0 p) && popsB p.sh p.kd then (9 : Int) else 0) = _
        rw [hx, casWf hp _ _ ew, if_neg (by omega)]; rfl
      · rw [h]; simp only [if_true]; unfold muA; simp; repeat' split
        all_goals omega
  · -- the descriptor is won
    have hd : dOk (cutI a.found 0 12) (cutI a.found 12 9) (cutI a.found 21 18) (cutI a.found 39 9) 3 (cutI a.found 52 10) = true := by
      rw [hf, c2.1, c2.2.1, c2.2.2.1, c2.2.2.2.1, c2.2.2.2.2.2.2]; exact XX.XD_ok p hp (by decide)
    have e := exC3 (s := s) h hd
    rw [dsU hp mu, hf, XX.XD_again p hp (by decide)] at e
    have q := csM_Cs s (39 + 3 * p.U) (XD p 2) (XD p 3)
    generalize csM s (39 + 3 * p.U) (XD p 2) (XD p 3) = s' at e q
    rw [e]
    have qx := q.xs
    by_cases h1 : ph = 1
    · have ed : dA p ph = XD p 2 := by unfold dA; rw [if_pos (by omega)]
      have ew : wA p ph = vw1 p := by unfold wA; rw [if_neg (by omega), if_pos (by omega)]
      rw [hx, ed, casDt hp, cond_true, XX.XM_putd p] at qx
      refine ⟨2, by omega, by omega, by omega, ⟨q.t, q.n, q.c⟩, ?_, mga, fun h => by simp at h, fun _ => by rw [if_neg (by omega)]; exact mpo, fun _ => ?_⟩
      · show s'.xs = _
        rw [qx, ew]; rfl
      · rw [h, h1]; simp [muA]
    · have ed : dA p ph ≠ XD p 2 := by
        unfold dA; rw [if_neg (by omega)]
        split
        · exact d23 hp (by decide) (by decide) (by decide)
        · exact dE3 hp (by decide) (by decide)
      rw [hx, casDf hp _ _ ed, cond_false] at qx
      refine ⟨ph, Nat.le_refl _, h4, by omega, ⟨q.t, q.n, q.c⟩, qx, mga, fun h => by simp at h, fun _ => by rw [if_neg (by omega)]; exact mpo, fun h4' => ?_⟩
      rw [h]; simp only [if_true]; unfold muA; simp; repeat' split
      all_goals omega
  · -- it would be lost
    have hd : dOk (cutI a.found 0 12) (cutI a.found 12 9) (cutI a.found 21 18) (cutI a.found 39 9) 4 (cutI a.found 52 10) = true := by
      rw [hf, c2.1, c2.2.1, c2.2.2.1, c2.2.2.2.1, c2.2.2.2.2.2.2]; exact XX.XD_ok p hp (by decide)
    have e := exC4 (s := s) h hd
    rw [dsU hp mu, hf, XX.XD_again p hp (by decide)] at e
    have q := csM_Cs s (39 + 3 * p.U) (XD p 2) (XD p 4)
    generalize csM s (39 + 3 * p.U) (XD p 2) (XD p 4) = s' at e q
    rw [e]
    have qx := q.xs
    have ed : dA p ph ≠ XD p 2 := by
      unfold dA; rw [if_neg (by omega)]
      split
      · exact d23 hp (by decide) (by decide) (by decide)
      · exact dE3 hp (by decide) (by decide)
    rw [hx, casDf hp _ _ ed, cond_false] at qx
    refine ⟨ph, Nat.le_refl _, h4, by omega, ⟨q.t, q.n, q.c⟩, qx, mga, fun h => by simp at h, fun _ => by rw [if_neg (by omega)]; exact mpo, fun h4' => ?_⟩
    rw [h]; simp only [if_true]; unfold muA; simp; repeat' split
    all_goals omega
  · -- it looks whether the word is free
    have hA : peek s.xs (cutI a.found 12 9) = wA p ph := by rw [hf, c3.2.1, hx, XX.XM_w p hp]
    obtain ⟨s', r, e⟩ := exK5 h hA
    rw [hwu, hf, c3.2.2.1] at e
    by_cases q : ph = 2
    · have ew : wA p ph = vw1 p := by unfold wA; rw [if_neg (by omega), if_pos (by omega)]
      have cc := vw1_cuts hp
      rw [ew, cc.2.2.2.2, cc.2.2.2.1, ieqR, ieqR, ieqN (show p.U + 1 ≠ 0 by omega)] at e
      have e : exF 4 12 a s = ⟨false, { a with at' := 6, found := XD p 3, word := vw1 p }, s'⟩ := e
      rw [e]
      refine ⟨ph, Nat.le_refl _, h4, by omega, ⟨r.t, r.n, r.c⟩, by rw [r.xs]; exact hx, mga, fun _ => ⟨⟨mu, msh, mkd, mon, mpo, mga⟩, .inr (.inr (.inr (.inr (.inr (.inr (.inl ⟨rfl, rfl, rfl, hg⟩)))))), by omega⟩, fun h => by simp at h, fun _ => ?_⟩
      rw [h, q]; simp [muA]
    · have ew : wA p ph = vw2 p := by unfold wA; rw [if_neg (by omega), if_neg (by omega)]
      have cc := vw2_cuts hp
      have hV := hp.hV
      rw [ew, cc.2.2.2.2, ieqN (show (p.V + 1) % 262144 ≠ p.V by omega)] at e
      have e : exF 4 12 a s = ⟨false, { a with at' := 7, found := XD p 3, word := vw2 p }, s'⟩ := e
      rw [e]
      refine ⟨ph, Nat.le_refl _, h4, by omega, ⟨r.t, r.n, r.c⟩, by rw [r.xs]; exact hx, mga, fun _ => ⟨⟨mu, msh, mkd, mon, mpo, mga⟩, .inr (.inr (.inr (.inr (.inr (.inr (.inr ⟨rfl, rfl, by omega⟩)))))), by omega⟩, fun h => by simp at h, fun _ => ?_⟩
      rw [h]; unfold muA; simp; repeat' split
      all_goals omega
  · -- the word is freed
    have e := exC6 (s := s) h
    have cc := vw1_cuts hp
    rw [hf, c3.2.1, hw, cc.1, cc.2.1, cc.2.2.1, cc.2.2.2.2, XX.bit_back, newer_eq] at e
    have q := csM_Cs s p.A (vw1 p) (putV 7 p.N p.M 0 ((p.V + 1) % 262144))
    generalize csM s p.A (vw1 p) (putV 7 p.N p.M 0 ((p.V + 1) % 262144)) = s' at e q
    rw [e]
    have qx := q.xs
    by_cases h2 : ph = 2
    · have ew : wA p ph = vw1 p := by unfold wA; rw [if_neg (by omega), if_pos (by omega)]
      have ed : dA p ph = XD p 3 := by unfold dA; rw [if_neg (by omega), if_pos (by omega)]
      rw [hx, ew, casWt hp, cond_true, XX.XM_putw p hp] at qx
      refine ⟨3, by omega, by omega, by omega, ⟨q.t, q.n, q.c⟩, ?_, mga, fun _ => ⟨⟨mu, msh, mkd, mon, mpo, mga⟩, .inr (.inr (.inr (.inr (.inr (.inr (.inr ⟨rfl, rfl, by omega⟩)))))), by omega⟩, fun h => by simp at h, fun _ => ?_⟩
      · show s'.xs = _
        rw [qx, ed]; rfl
      · rw [h, h2]; simp [muA]
    · have ew : wA p ph ≠ vw1 p := by
        unfold wA; rw [if_neg (by omega), if_neg (by omega)]
        exact fun e => v12 hp e.symm
      rw [hx, casWf hp _ _ ew, cond_false] at qx
      refine ⟨ph, Nat.le_refl _, h4, by omega, ⟨q.t, q.n, q.c⟩, qx, mga, fun _ => ⟨⟨mu, msh, mkd, mon, mpo, mga⟩, .inr (.inr (.inr (.inr (.inr (.inr (.inr ⟨rfl, rfl, by omega⟩)))))), by omega⟩, fun h => by simp at h, fun _ => ?_⟩
      rw [h]; unfold muA; simp; repeat' split
      all_goals omega
  · -- the operation ends
    have hd : dOk (cutI a.found 0 12) 0 0 0 5 (cutI a.found 52 10) = true := by
      rw [hf, c3.1, c3.2.2.2.2.2.2]; exact vdE_ok hp
    have e := exC7 (s := s) h hd
    rw [dsU hp mu, hf, c3.1, c3.2.2.2.2.2.2] at e
    have q := csM_Cs s (39 + 3 * p.U) (XD p 3) (dPutV 3 0 0 0 true 5 p.X)
    generalize csM s (39 + 3 * p.U) (XD p 3) (dPutV 3 0 0 0 true 5 p.X) = s' at e q
    rw [e]
    have qx := q.xs
    by_cases h3 : ph = 3
    · have ed : dA p ph = XD p 3 := by unfold dA; rw [if_neg (by omega), if_pos (by omega)]
      have ew : wA p ph = vw2 p := by unfold wA; rw [if_neg (by omega), if_neg (by omega)]
      rw [hx, ed, casDt hp, cond_true, XX.XM_putd p] at qx
      refine ⟨4, by omega, by omega, by omega, ⟨q.t, q.n, q.c⟩, ?_, mga, fun h => by simp at h, fun _ => by rw [if_neg (by omega)]; exact mpo, fun _ => ?_⟩
      · show s'.xs = _
        rw [qx, ew]; rfl
      · rw [h, h3]; simp [muA]
    · have ed : dA p ph ≠ XD p 3 := by
        unfold dA; rw [if_neg (by omega), if_neg (by omega)]
        exact dE3 hp (by decide) (by decide)
      rw [hx, casDf hp _ _ ed, cond_false] at qx
      exact ⟨ph, Nat.le_refl _, h4, by omega, ⟨q.t, q.n, q.c⟩, qx, mga, fun h => by simp at h, fun _ => by rw [if_neg (by omega)]; exact mpo, fun h4' => by omega⟩
end
end Go.Sh

namespace Go.Sh
open Go Go.Proofs
variable [Con]
open XX (PR okPR XM XW XD)
def vwB (p : PR) : Int := XW p 9 false p.C p.W
def dB (p : PR) (ph : Nat) : Int := if ph = 0 then XD p 2 else if ph = 1 then XD p 4 else vdN
def atB (p : PR) (ph : Nat) (a : EXS) : Prop := a.at' = 0 ∨ (a.at' = 1 ∧ a.found = XD p 2) ∨ (a.at' = 4 ∧ a.found = XD p 2) ∨ (a.at' = 8 ∧ a.found = XD p 4 ∧ 1 ≤ ph) ∨ (a.at' = 9 ∧ a.found = XD p 4 ∧ ph = 2)
theorem atB_mono {p : PR} {ph ph' : Nat} {a : EXS} (hle : ph ≤ ph') (h2 : ph' ≤ 2) (h : atB p ph a) : atB p ph' a := by
  rcases h with h | h | h | ⟨h1, h2, h3⟩ | ⟨h1, h2, h3⟩
  · exact .inl h
  · exact .inr (.inl h)
  · exact .inr (.inr (.inl h))
  · exact .inr (.inr (.inr (.inl ⟨h1, h2, by omega⟩)))
  · exact .inr (.inr (.inr (.inr ⟨h1, h2, by omega⟩)))
def muB (ph : Nat) (a : Int) : Nat :=
  if 2 ≤ ph then 0 else
  if a = 0 then (if ph = 0 then 5 else 2) else
  if a = 1 then 4 else
  if a = 4 then 3 else 1
theorem muB_mono {ph ph' : Nat} (a : Int) (h : ph ≤ ph') : muB ph' a ≤ muB ph a := by
  unfold muB
  repeat' split
  all_goals omega
def givB (p : PR) : Bool := linksB p.kd && nodeB 12 p.N
section
variable {p : PR} (hp : okPR p) (hO : p.C ≠ 0 ∧ p.C ≠ p.U + 1 ∨ p.W ≠ p.V)
include hp
theorem vwB_cuts : cutI (vwB p) 0 10 = 7 ∧ cutI (vwB p) 10 9 = 9 ∧ cutI (vwB p) 19 1 = bitI false ∧ cutI (vwB p) 20 5 = p.C ∧ cutI (vwB p) 25 18 = p.W := XW_cuts p (by decide) (by have := hp.hC; omega) (by have := hp.hW; omega)
omit hp in
theorem vdN_cuts : cutI vdN 49 3 = 1 := by decide
theorem dN4 {e : Int} (he : 0 ≤ e ∧ e < 8) (h : e ≠ 1) : vdN ≠ XD p e := by
  intro q
  have h0 := vdN_cuts
  rw [q, (XX.XD_cuts p hp he).2.2.2.2.2.1] at h0
  exact h h0
include hO
theorem stepB {ph : Nat} {a : EXS} {s : MS} {l : Int} (h2 : ph ≤ 2) (hx : s.xs = XM p (vwB p) (dB p ph) l) (hm : MAC1 p a) (ha : atB p ph a) :
    ∃ ph' l', ph ≤ ph' ∧ ph' ≤ 2 ∧ STP p s (exF 4 12 a s).s ∧ (exF 4 12 a s).s.xs = XM p (vwB p) (dB p ph') l' ∧ (exF 4 12 a s).x.popped = 0 ∧
      (a.at' = 9 → (exF 4 12 a s).d = true ∧ (exF 4 12 a s).x.gave = p.N ∧ l' = WU (l + 1) ∧ ph' = ph) ∧
      (a.at' ≠ 9 → (exF 4 12 a s).x.gave = 0 ∧ l' = l ∧ ((exF 4 12 a s).d = false → MAC1 p (exF 4 12 a s).x ∧ atB p ph' (exF 4 12 a s).x) ∧ (((exF 4 12 a s).d = false ∧ (exF 4 12 a s).x.at' = 9) ↔ (ph < 2 ∧ ph' = 2 ∧ givB p = true))) ∧
      (ph < 2 → muB ph' (if (exF 4 12 a s).d = true then 0 else (exF 4 12 a s).x.at') + 1 ≤ muB ph a.at') := by
  obtain ⟨mu, msh, mkd, mon, mpo, mga⟩ := hm
  have hU := hp.hU
  have hD : peek s.xs (dsA a.u) = dB p ph := by rw [dsU hp mu, hx, XX.XM_d p hp]
  have c2 := XX.XD_cuts p hp (e := 2) (by decide)
  have c4 := XX.XD_cuts p hp (e := 4) (by decide)
  have hwu : W (a.u + 1) = p.U + 1 := by rw [mu]; exact W_in (by omega)
  rcases ha with h | ⟨h, hf⟩ | ⟨h, hf⟩ | ⟨h, hf, hg⟩ | ⟨h, hf, hg⟩
  · obtain ⟨s', r, e⟩ := exL h mon hD
    rcases (by omega : ph = 0 ∨ ph = 1 ∨ ph = 2) with q | q | q
    · have ed : dB p ph = XD p 2 := by unfold dB; rw [if_pos q]
      rw [ed, c2.2.2.2.2.2.1] at e
      have e : exF 4 12 a s = ⟨false, { a with at' := 1, found := XD p 2 }, s'⟩ := e
      rw [e]
      refine ⟨ph, l, Nat.le_refl _, h2, ⟨r.t, r.n, r.c⟩, by rw [r.xs]; exact hx, mpo, fun h9 => by omega, fun _ => ⟨mga, rfl, fun _ => ⟨⟨mu, msh, mkd, mon, mpo, mga⟩, .inr (.inl ⟨rfl, rfl⟩)⟩, ⟨fun h9 => by simp at h9, fun h9 => by omega⟩⟩, fun _ => ?_⟩
      rw [h, q]; simp [muB]
    · have ed : dB p ph = XD p 4 := by unfold dB; rw [if_neg (by omega), if_pos q]
      rw [ed, c4.2.2.2.2.2.1] at e
      have e : exF 4 12 a s = ⟨false, { a with at' := 8, found := XD p 4 }, s'⟩ := e
      rw [e]
      refine ⟨ph, l, Nat.le_refl _, h2, ⟨r.t, r.n, r.c⟩, by rw [r.xs]; exact hx, mpo, fun h9 => by omega, fun _ => ⟨mga, rfl, fun _ => ⟨⟨mu, msh, mkd, mon, mpo, mga⟩, .inr (.inr (.inr (.inl ⟨rfl, rfl, by omega⟩)))⟩, ⟨fun h9 => by simp at h9, fun h9 => by omega⟩⟩, fun _ => ?_⟩
      rw [h, q]; simp [muB]
    · have ed : dB p ph = vdN := by unfold dB; rw [if_neg (by omega), if_neg (by omega)]
      rw [ed, vdN_cuts] at e
      have e : exF 4 12 a s = ⟨true, { a with at' := 0, found := vdN }, s'⟩ := e
      rw [e]
      exact ⟨ph, l, Nat.le_refl _, h2, ⟨r.t, r.n, r.c⟩, by rw [r.xs]; exact hx, mpo, fun h9 => by omega, fun _ => ⟨mga, rfl, fun h => by simp at h, ⟨fun h9 => by simp at h9, fun h9 => by omega⟩⟩, fun h9 => by omega⟩
  · have hA : peek s.xs (cutI a.found 12 9) = vwB p := by rw [hf, c2.2.1, hx, XX.XM_w p hp]
    obtain ⟨s', r, e⟩ := exK1 h hA
    have cc := vwB_cuts hp
    rw [hwu, hf, c2.2.2.1, cc.2.2.2.2, cc.2.2.2.1] at e
    have e : exF 4 12 a s = ⟨false, { a with at' := 4, found := XD p 2, word := vwB p }, s'⟩ := by
      rw [e]
      by_cases hv : p.W = p.V
      · have hC := hO.resolve_right (fun h => h hv)
        rw [hv, ieqR, ieqN hC.1, ieqN hC.2]; rfl
      · rw [ieqN hv]; rfl
    rw [e]
    refine ⟨ph, l, Nat.le_refl _, h2, ⟨r.t, r.n, r.c⟩, by rw [r.xs]; exact hx, mpo, fun h9 => by omega, fun _ => ⟨mga, rfl, fun _ => ⟨⟨mu, msh, mkd, mon, mpo, mga⟩, .inr (.inr (.inl ⟨rfl, rfl⟩))⟩, ⟨fun h9 => by simp at h9, fun h9 => by omega⟩⟩, fun _ => ?_⟩
    rw [h]; unfold muB; simp; repeat' split
    all_goals omega
  · have hd : dOk (cutI a.found 0 12) (cutI a.found 12 9) (cutI a.found 21 18) (cutI a.found 39 9) 4 (cutI a.found 52 10) = true := by
      rw [hf, c2.1, c2.2.1, c2.2.2.1, c2.2.2.2.1, c2.2.2.2.2.2.2]; exact XX.XD_ok p hp (by decide)
    have e := exC4 (s := s) h hd
    rw [dsU hp mu, hf, XX.XD_again p hp (by decide)] at e
    have q := csM_Cs s (39 + 3 * p.U) (XD p 2) (XD p 4)
    generalize csM s (39 + 3 * p.U) (XD p 2) (XD p 4) = s' at e q
    rw [e]
    have qx := q.xs
    by_cases h0 : ph = 0
    · have ed : dB p ph = XD p 2 := by unfold dB; rw [if_pos h0]
      rw [hx, ed, casDt hp, cond_true, XX.XM_putd p] at qx
      refine ⟨1, l, by omega, by omega, ⟨q.t, q.n, q.c⟩, by show s'.xs = _; rw [qx]; rfl, mpo, fun h9 => by omega, fun _ => ⟨mga, rfl, fun h => by simp at h, ⟨fun h9 => by simp at h9, fun h9 => by omega⟩⟩, fun _ => ?_⟩
      rw [h, h0]; simp [muB]
    · have ed : dB p ph ≠ XD p 2 := by
        unfold dB; rw [if_neg h0]
        split
        · exact d23 hp (by decide) (by decide) (by decide)
        · exact dN4 hp (by decide) (by decide)
      rw [hx, casDf hp _ _ ed, cond_false] at qx
      refine ⟨ph, l, Nat.le_refl _, h2, ⟨q.t, q.n, q.c⟩, qx, mpo, fun h9 => by omega, fun _ => ⟨mga, rfl, fun h => by simp at h, ⟨fun h9 => by simp at h9, fun h9 => by omega⟩⟩, fun h4' => ?_⟩
      rw [h]; simp only [if_true]; unfold muB; simp; repeat' split
      all_goals omega
  · have ha3 : attI (cutI a.found 0 12) = 4 := by rw [hf, c4.1]; decide
    have hd : dOk (attI (cutI a.found 0 12)) 0 0 0 1 0 = true := by rw [ha3]; decide
    have e := exC8 (s := s) h hd
    rw [dsU hp mu, ha3, hf, c4.2.2.2.1, mkd] at e
    have q := csM_Cs s (39 + 3 * p.U) (XD p 4) (dPutV 4 0 0 0 false 1 0)
    generalize csM s (39 + 3 * p.U) (XD p 4) (dPutV 4 0 0 0 false 1 0) = s' at e q
    rw [e]
    have qx := q.xs
    by_cases h1 : ph = 1
    · have ed : dB p ph = XD p 4 := by unfold dB; rw [if_neg (by omega), if_pos h1]
      have hc : casB s.xs (39 + 3 * p.U) (XD p 4) = true := by rw [hx, ed, casDt hp]
      rw [hc]
      rw [hx, ed, casDt hp, cond_true, XX.XM_putd p] at qx
      have hg2 : (bif linksB p.kd then !nodeB 12 p.N else true) = !givB p := by unfold givB; cases linksB p.kd <;> rfl
      rw [hg2]
      refine ⟨2, l, by omega, by omega, ⟨q.t, q.n, q.c⟩, by show s'.xs = _; rw [qx]; rfl, mpo, fun h9 => by omega, fun _ => ⟨mga, rfl, fun h => ⟨⟨mu, msh, rfl, mon, mpo, mga⟩, .inr (.inr (.inr (.inr ⟨rfl, rfl, rfl⟩)))⟩, ⟨fun h9 => ⟨by omega, rfl, ?_⟩, fun h9 => ⟨?_, rfl⟩⟩⟩, fun _ => ?_⟩
      · have := h9.1
        cases hgb : givB p with
        | true => rfl
        | false => rw [hgb] at this; cases this
      · show (bif true then !givB p else true) = false
        rw [h9.2.2]; rfl
      · rw [h, h1]; simp [muB]
    · have ed : dB p ph ≠ XD p 4 := by
        unfold dB; rw [if_neg (by omega), if_neg h1]
        exact dN4 hp (by decide) (by decide)
      have hc : casB s.xs (39 + 3 * p.U) (XD p 4) = false := by rw [hx, casDf hp _ _ ed]
      rw [hc]
      rw [hx, casDf hp _ _ ed, cond_false] at qx
      refine ⟨ph, l, Nat.le_refl _, h2, ⟨q.t, q.n, q.c⟩, qx, mpo, fun h9 => by omega, fun _ => ⟨mga, rfl, fun h => by simp at h, ⟨fun h9 => by simp at h9, fun h9 => by omega⟩⟩, fun h4' => by omega⟩
  · obtain ⟨s', r, e⟩ := exC9 (s := s) h
    rw [hf, c4.2.2.2.1] at e r
    rw [e]
    obtain ⟨rt, rn, rc, rx⟩ := r
    have ea : (12 + 4 + p.N : Int) = 16 + p.N := by omega
    rw [ea, hx, XX.XM_l p hp, XX.XM_putl p hp] at rx
    exact ⟨ph, WU (l + 1), Nat.le_refl _, h2, ⟨rt, rn, rc⟩, rx, mpo, fun _ => ⟨rfl, rfl, rfl, rfl⟩, fun h9 => (h9 h).elim, fun h9 => by omega⟩
end
end Go.Sh

