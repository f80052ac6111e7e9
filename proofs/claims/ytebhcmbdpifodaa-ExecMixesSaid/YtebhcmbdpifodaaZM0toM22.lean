import Derived.Test.YtebhcmbdpifodaaRows
import Derived.IntWalk
import Derived.Test.YtebhcmbdpifodaaZSh37dtoSh37e
set_option linter.all false
namespace Go.Sh
open Go Go.Proofs
variable [Con]
abbrev W (x : Int) : Int := IntKind.wrap IntKind.i64 x
abbrev WU (x : Int) : Int := IntKind.wrap IntKind.u64 x
theorem W_in {x : Int} (h : -9223372036854775808 ≤ x ∧ x ≤ 9223372036854775807) : IntKind.wrap IntKind.i64 x = x := IntWalk.i64_in x h

structure MS where
  t : Int
  n : Int
  xs : List Int
  c : Int
  k : Int
  a : Int
  o : Int
  w : Int
  ok : Bool

structure AL where
  got : Int
  at' : Int
  left : Int
  found : Int
  free : Bool
structure SWS where
  ph : Nat
  N : List Int
  m : List (Int × Int)
  i : Int
  ks : List Int
  fs : List Int
  gs : List Int
  j : Nat
  l : Nat
structure ENS where
  ph : Nat
  sh : Bool
  dn : Bool
  x : AL
  y : SWS
structure STS where
  me : Int
  sp : Int
  R : List Int
structure PLN where
  now : Bool
  code : Int
  okk : Bool
  val : Int
  addr : Int
  old : Int
  nxt : Int
  mark : Bool
  pops : Int
structure CLS where
  addr : Int
  at' : Int
  word : Int
  found : Int
structure PRS where
  key : Int
  nxt : Int
  found : Int
  loaded : Bool
structure HDS where
  u : Int
  no : Int
  at' : Int
  tk : Bool
structure DRS where
  th : Int
  at' : Int
structure ANS where
  no : Int
  me : Int
  at' : Int
  bits : Int
  wrong : Bool
  found : Int
structure AWS where
  code : Int
  okk : Bool
  val : Int
  me : Int
structure EXS where
  popped : Int
  gave : Int
  u : Int
  sh : Int
  kd : Int
  ky : Int
  only : Bool
  att : Int
  at' : Int
  found : Int
  word : Int
structure FNS where
  pred : Int
  pw : Int
  curr : Int
  cw : Int
  tries : Int
  ul : List Int
  ab : Bool
  me : Int
  frm : Int
  key : Int
  limit : Int
  at' : Int
  moved : Int
  cl : CLS
structure FTS where
  code : Int
  okk : Bool
  val : Int
  failed : Bool
  tries : Int
  sh : Int
  kd : Int
  ky : Int
  most : Int
  at' : Int
  p : PLN
  fn : FNS
  cl : CLS
  pr : PRS
structure HPS where
  u : Int
  no : Int
  rounds : Int
  limit : Int
  at' : Int
  found : Int
  sh : Int
  kd : Int
  ky : Int
  p : PLN
  ex : EXS
  en : ENS
  fn : FNS
  cl : CLS
  pr : PRS
structure DOS where
  code : Int
  okk : Bool
  val : Int
  slow : Bool
  sh : Int
  kd : Int
  ky : Int
  limit : Int
  at' : Int
  hd : HDS
  hp : HPS
  en : ENS
  ft : FTS
  an : ANS
  aw : AWS
  fn : FNS
  dr : DRS
  sw : SWS
structure HST where
  ev : List (List Int)
  cl : List (List Int)
  n0 : Int
  n1 : Int
  n2 : Int
  n3 : Int
  n4 : Int
  n5 : Int
  n6 : Int
  n7 : Int
structure WKS where
  t : Int
  n : Int
  st : STS
  tk : List (List Int)
  en : Int
  b : Bool
  d : DOS
  tl : List Int
  sl : List Int
structure EGS where
  sh : Int
  th : Int
  nd : Int
  tr : Int
  s : MS
  h : HST
  ws : List WKS
  k : Int
instance : Inhabited PLN := ⟨⟨false, 0, false, 0, 0, 0, 0, false, 0⟩⟩
instance : Inhabited HST := ⟨⟨[], [], 0, 0, 0, 0, 0, 0, 0, 0⟩⟩
abbrev dSWS : SWS := ⟨0, [], [], 0, [], [], [], 0, 0⟩
abbrev dENS : ENS := ⟨0, false, false, ⟨0, 0, 0, 0, false⟩, ⟨0, [], [], 0, [], [], [], 0, 0⟩⟩
abbrev dEXS : EXS := ⟨0, 0, 0, 0, 0, 0, false, 0, 0, 0, 0⟩
structure STN where
  t : Int
  n : Int
  st : STS
structure ANN where
  t : Int
  n : Int
  x : ANS
structure EXN where
  t : Int
  n : Int
  x : EXS
inductive Mc where
  | sweep (t n : Int) (y : SWS)
  | ensure (t n : Int) (e : ENS)
  | store (t n : Int) (s : STS)
  | clear (t n : Int) (x : CLS)
  | prepare (t n : Int) (x : PRS)
  | head (t n : Int) (x : HDS)
  | drop (t n : Int) (x : DRS)
  | announce (t n : Int) (x : ANS)
  | answer (t n : Int) (x : AWS)
  | exec (t n : Int) (x : EXS)
  | find (t n : Int) (x : FNS)
  | fast (t n : Int) (x : FTS)
  | help (t n : Int) (x : HPS)
  | doer (t n : Int) (x : DOS)
  | hist (x : HST)
  | worker (x : WKS)
  | wrow (ws : List WKS)
  | whole (ws : List WKS) (i : Nat)
  | strow (ws : List STN)
  | sthole (ws : List STN) (i : Nat)
  | anrow (ws : List (Option ANN))
  | anhole (ws : List (Option ANN)) (i : Nat)
  | exrow (ws : List (Option EXN))
  | exhole (ws : List (Option EXN)) (i : Nat)
  | srow (ws : List (List Int))
  | shole (ws : List (List Int)) (i : Nat)
  | engine (x : EGS)
abbrev Ob := Mc
def alE (t n : Int) (x : AL) : Option (Entry Mc) := some (.cells [.int .i64 t, .int .i64 n, .int .i64 x.got, .int .i64 x.at', .int .i64 x.left, .int .u64 x.found, .bool x.free])
def swG (t n : Int) (y : SWS) : Heap Mc := match y.ph with
  | 0 => [some (.cells [.ptr 1 0, .raw (.pointer none)]), none]
  | 1 => [some (.cells [.ptr 1 0, .ptr 2 0]), none, some (.cells [.int .i64 t, .int .i64 n, .raw (.slice none 0 0), .raw (.slice none 0 0), .slice 3 0 y.N.length 1, .map 4, .int .i64 y.i, .raw (.pointer none)]), some (.ints (some .i64) y.N), some (.imap .i64 none y.m)]
  | 2 => [some (.cells [.ptr 1 0, .ptr 2 0]), none, some (.cells [.int .i64 t, .int .i64 n, .slice 3 0 y.ks.length 1, .slice 4 0 y.fs.length 1, .slice 5 0 y.N.length 1, .map 6, .int .i64 y.i, .ptr 7 0]), some (.ints (some .i64) y.ks), some (.ints (some .i64) y.fs), some (.ints (some .i64) y.N), some (.imap .i64 none y.m), some (.cells [.int .i64 t, .int .i64 n, .slice 8 y.j y.l 1]), some (.ints (some .i64) y.gs)]
  | _ => [some (.cells [.ptr 1 0, .top]), none]
def enG (t n : Int) (e : ENS) : Heap Mc := match e.ph with
  | 0 => [some (.cells [.ptr 1 0, .bool e.sh, .raw (.pointer none), .raw (.pointer none), .bool e.dn]), none]
  | 1 => [some (.cells [.ptr 1 0, .bool e.sh, .ptr 2 0, .raw (.pointer none), .bool e.dn]), none, alE t n e.x]
  | 2 => [some (.cells [.ptr 1 0, .bool e.sh, .ptr 2 0, .ptr 3 0, .bool e.dn]), none, alE t n e.x, some (.cells [.ptr 1 0, .raw (.pointer none)])]
  | 3 => [some (.cells [.ptr 1 0, .bool e.sh, .ptr 2 0, .ptr 3 0, .bool e.dn]), none, alE t n e.x, some (.cells [.ptr 1 0, .ptr 4 0]), some (.cells [.int .i64 t, .int .i64 n, .raw (.slice none 0 0), .raw (.slice none 0 0), .slice 5 0 e.y.N.length 1, .map 6, .int .i64 e.y.i, .raw (.pointer none)]), some (.ints (some .i64) e.y.N), some (.imap .i64 none e.y.m)]
  | _ => [some (.cells [.ptr 1 0, .bool e.sh, .ptr 2 0, .ptr 3 0, .bool e.dn]), none, alE t n e.x, some (.cells [.ptr 1 0, .ptr 4 0]), some (.cells [.int .i64 t, .int .i64 n, .slice 5 0 e.y.ks.length 1, .slice 6 0 e.y.fs.length 1, .slice 7 0 e.y.N.length 1, .map 8, .int .i64 e.y.i, .ptr 9 0]), some (.ints (some .i64) e.y.ks), some (.ints (some .i64) e.y.fs), some (.ints (some .i64) e.y.N), some (.imap .i64 none e.y.m), some (.cells [.int .i64 t, .int .i64 n, .slice 10 e.y.j e.y.l 1]), some (.ints (some .i64) e.y.gs)]
def stG (t n : Int) (s : STS) : Heap Mc := [some (.cells [.int .i64 t, .int .i64 n, .int .i64 s.me, .int .i64 s.sp, .slice 1 0 s.R.length 1]), some (.ints (some .i64) s.R)]
theorem ieq_n {a b : Int} (h : a ≠ b) : ieq a b = false := by
  rw [ieq_eq]; simpa using h
abbrev clearG0 (t n : Int) (x : CLS) : Heap Mc := [some (.cells [.int .i64 t, .int .i64 n, .int .i64 x.addr, .int .i64 x.at', .int .u64 x.word, .int .u64 x.found])]
def clearG (t n : Int) (x : CLS) : Heap Mc := clearG0 t n x
abbrev prepareG0 (t n : Int) (x : PRS) : Heap Mc := [some (.cells [.ptr 1 0, .int .i64 x.key, .int .i64 x.nxt, .int .u64 x.found, .bool x.loaded]), none]
def prepareG (t n : Int) (x : PRS) : Heap Mc := prepareG0 t n x
abbrev headG0 (t n : Int) (x : HDS) : Heap Mc := [some (.cells [.int .i64 t, .int .i64 n, .int .i64 x.u, .int .u64 x.no, .int .i64 x.at', .bool x.tk])]
def headG (t n : Int) (x : HDS) : Heap Mc := headG0 t n x
abbrev dropG0 (t n : Int) (x : DRS) : Heap Mc := [some (.cells [.int .i64 t, .int .i64 n, .int .i64 x.th, .int .i64 x.at'])]
def dropG (t n : Int) (x : DRS) : Heap Mc := dropG0 t n x
abbrev announceG0 (t n : Int) (x : ANS) : Heap Mc := [some (.cells [.int .i64 t, .int .i64 n, .int .u64 x.no, .int .i64 x.me, .int .i64 x.at', .int .u64 x.bits, .bool x.wrong, .int .u64 x.found])]
def announceG (t n : Int) (x : ANS) : Heap Mc := announceG0 t n x
abbrev answerG0 (t n : Int) (x : AWS) : Heap Mc := [some (.cells [.int .i64 t, .int .i64 n, .int .i64 x.code, .bool x.okk, .int .i64 x.val, .int .i64 x.me])]
def answerG (t n : Int) (x : AWS) : Heap Mc := answerG0 t n x
abbrev execG0 (t n : Int) (x : EXS) : Heap Mc := [some (.cells [.int .i64 t, .int .i64 n, .int .i64 x.popped, .int .i64 x.gave, .int .i64 x.u, .int .i64 x.sh, .int .i64 x.kd, .int .i64 x.ky, .bool x.only, .int .i64 x.att, .int .i64 x.at', .int .u64 x.found, .int .u64 x.word])]
def execG (t n : Int) (x : EXS) : Heap Mc := execG0 t n x
abbrev findG0 (t n : Int) (x : FNS) : Heap Mc := [some (.cells [.int .i64 t, .int .i64 n, .int .i64 x.pred, .int .u64 x.pw, .int .i64 x.curr, .int .u64 x.cw, .int .i64 x.tries, .slice 1 0 x.ul.length 1, .bool x.ab, .int .i64 x.me, .int .i64 x.frm, .int .i64 x.key, .int .i64 x.limit, .int .i64 x.at', .int .i64 x.moved, .top]), some (.ints (some .i64) x.ul)]
abbrev findG_cl (t n : Int) (x : FNS) : Heap Mc := [some (.cells [.int .i64 t, .int .i64 n, .int .i64 x.pred, .int .u64 x.pw, .int .i64 x.curr, .int .u64 x.cw, .int .i64 x.tries, .slice 1 0 x.ul.length 1, .bool x.ab, .int .i64 x.me, .int .i64 x.frm, .int .i64 x.key, .int .i64 x.limit, .int .i64 x.at', .int .i64 x.moved, .ptr 2 0]), some (.ints (some .i64) x.ul), some (.abs (.clear t n x.cl) [])]
def findG (t n : Int) (x : FNS) : Heap Mc := bif ieq x.at' 4 then findG_cl t n x else findG0 t n x
abbrev fastG0 (t n : Int) (x : FTS) : Heap Mc := [some (.cells [.ptr 1 0, .int .i64 x.code, .bool x.okk, .int .i64 x.val, .bool x.failed, .int .i64 x.tries, .int .i64 x.sh, .int .i64 x.kd, .int .i64 x.ky, .int .i64 x.most, .int .i64 x.at', .bool x.p.now, .int .i64 x.p.code, .bool x.p.okk, .int .i64 x.p.val, .int .i64 x.p.addr, .int .u64 x.p.old, .int .i64 x.p.nxt, .bool x.p.mark, .int .i64 x.p.pops, .top, .top, .top]), none]
abbrev fastG_fn (t n : Int) (x : FTS) : Heap Mc := [some (.cells [.ptr 1 0, .int .i64 x.code, .bool x.okk, .int .i64 x.val, .bool x.failed, .int .i64 x.tries, .int .i64 x.sh, .int .i64 x.kd, .int .i64 x.ky, .int .i64 x.most, .int .i64 x.at', .bool x.p.now, .int .i64 x.p.code, .bool x.p.okk, .int .i64 x.p.val, .int .i64 x.p.addr, .int .u64 x.p.old, .int .i64 x.p.nxt, .bool x.p.mark, .int .i64 x.p.pops, .ptr 2 0, .top, .top]), none, some (.abs (.find t n x.fn) [])]
abbrev fastG_cl (t n : Int) (x : FTS) : Heap Mc := [some (.cells [.ptr 1 0, .int .i64 x.code, .bool x.okk, .int .i64 x.val, .bool x.failed, .int .i64 x.tries, .int .i64 x.sh, .int .i64 x.kd, .int .i64 x.ky, .int .i64 x.most, .int .i64 x.at', .bool x.p.now, .int .i64 x.p.code, .bool x.p.okk, .int .i64 x.p.val, .int .i64 x.p.addr, .int .u64 x.p.old, .int .i64 x.p.nxt, .bool x.p.mark, .int .i64 x.p.pops, .top, .ptr 2 0, .top]), none, some (.abs (.clear t n x.cl) [])]
abbrev fastG_pr (t n : Int) (x : FTS) : Heap Mc := [some (.cells [.ptr 1 0, .int .i64 x.code, .bool x.okk, .int .i64 x.val, .bool x.failed, .int .i64 x.tries, .int .i64 x.sh, .int .i64 x.kd, .int .i64 x.ky, .int .i64 x.most, .int .i64 x.at', .bool x.p.now, .int .i64 x.p.code, .bool x.p.okk, .int .i64 x.p.val, .int .i64 x.p.addr, .int .u64 x.p.old, .int .i64 x.p.nxt, .bool x.p.mark, .int .i64 x.p.pops, .top, .top, .ptr 2 0]), none, some (.abs (.prepare t n x.pr) [1])]
def fastG (t n : Int) (x : FTS) : Heap Mc := bif ieq x.at' 0 then fastG_fn t n x else bif ieq x.at' 1 then fastG_cl t n x else bif ieq x.at' 2 then fastG_pr t n x else fastG0 t n x
abbrev helpG0 (t n : Int) (x : HPS) : Heap Mc := [some (.cells [.ptr 1 0, .int .i64 x.u, .int .u64 x.no, .int .i64 x.rounds, .int .i64 x.limit, .int .i64 x.at', .int .u64 x.found, .int .i64 x.sh, .int .i64 x.kd, .int .i64 x.ky, .bool x.p.now, .int .i64 x.p.code, .bool x.p.okk, .int .i64 x.p.val, .int .i64 x.p.addr, .int .u64 x.p.old, .int .i64 x.p.nxt, .bool x.p.mark, .int .i64 x.p.pops, .top, .top, .top, .top, .top]), none]
abbrev helpG_ex (t n : Int) (x : HPS) : Heap Mc := [some (.cells [.ptr 1 0, .int .i64 x.u, .int .u64 x.no, .int .i64 x.rounds, .int .i64 x.limit, .int .i64 x.at', .int .u64 x.found, .int .i64 x.sh, .int .i64 x.kd, .int .i64 x.ky, .bool x.p.now, .int .i64 x.p.code, .bool x.p.okk, .int .i64 x.p.val, .int .i64 x.p.addr, .int .u64 x.p.old, .int .i64 x.p.nxt, .bool x.p.mark, .int .i64 x.p.pops, .ptr 2 0, .top, .top, .top, .top]), none, some (.abs (.exec t n x.ex) [])]
abbrev helpG_en (t n : Int) (x : HPS) : Heap Mc := [some (.cells [.ptr 1 0, .int .i64 x.u, .int .u64 x.no, .int .i64 x.rounds, .int .i64 x.limit, .int .i64 x.at', .int .u64 x.found, .int .i64 x.sh, .int .i64 x.kd, .int .i64 x.ky, .bool x.p.now, .int .i64 x.p.code, .bool x.p.okk, .int .i64 x.p.val, .int .i64 x.p.addr, .int .u64 x.p.old, .int .i64 x.p.nxt, .bool x.p.mark, .int .i64 x.p.pops, .top, .ptr 2 0, .top, .top, .top]), none, some (.abs (.ensure t n x.en) [1])]
abbrev helpG_fn (t n : Int) (x : HPS) : Heap Mc := [some (.cells [.ptr 1 0, .int .i64 x.u, .int .u64 x.no, .int .i64 x.rounds, .int .i64 x.limit, .int .i64 x.at', .int .u64 x.found, .int .i64 x.sh, .int .i64 x.kd, .int .i64 x.ky, .bool x.p.now, .int .i64 x.p.code, .bool x.p.okk, .int .i64 x.p.val, .int .i64 x.p.addr, .int .u64 x.p.old, .int .i64 x.p.nxt, .bool x.p.mark, .int .i64 x.p.pops, .top, .top, .ptr 2 0, .top, .top]), none, some (.abs (.find t n x.fn) [])]
abbrev helpG_cl (t n : Int) (x : HPS) : Heap Mc := [some (.cells [.ptr 1 0, .int .i64 x.u, .int .u64 x.no, .int .i64 x.rounds, .int .i64 x.limit, .int .i64 x.at', .int .u64 x.found, .int .i64 x.sh, .int .i64 x.kd, .int .i64 x.ky, .bool x.p.now, .int .i64 x.p.code, .bool x.p.okk, .int .i64 x.p.val, .int .i64 x.p.addr, .int .u64 x.p.old, .int .i64 x.p.nxt, .bool x.p.mark, .int .i64 x.p.pops, .top, .top, .top, .ptr 2 0, .top]), none, some (.abs (.clear t n x.cl) [])]
abbrev helpG_pr (t n : Int) (x : HPS) : Heap Mc := [some (.cells [.ptr 1 0, .int .i64 x.u, .int .u64 x.no, .int .i64 x.rounds, .int .i64 x.limit, .int .i64 x.at', .int .u64 x.found, .int .i64 x.sh, .int .i64 x.kd, .int .i64 x.ky, .bool x.p.now, .int .i64 x.p.code, .bool x.p.okk, .int .i64 x.p.val, .int .i64 x.p.addr, .int .u64 x.p.old, .int .i64 x.p.nxt, .bool x.p.mark, .int .i64 x.p.pops, .top, .top, .top, .top, .ptr 2 0]), none, some (.abs (.prepare t n x.pr) [1])]
def helpG (t n : Int) (x : HPS) : Heap Mc := bif ieq x.at' 3 then helpG_ex t n x else bif ieq x.at' 4 then helpG_en t n x else bif ieq x.at' 5 then helpG_fn t n x else bif ieq x.at' 7 then helpG_cl t n x else bif ieq x.at' 8 then helpG_pr t n x else helpG0 t n x
abbrev doerG0 (t n : Int) (x : DOS) : Heap Mc := [some (.cells [.ptr 1 0, .int .i64 x.code, .bool x.okk, .int .i64 x.val, .bool x.slow, .int .i64 x.sh, .int .i64 x.kd, .int .i64 x.ky, .int .i64 x.limit, .int .i64 x.at', .top, .top, .top, .top, .top, .top, .top, .top, .top]), none]
abbrev doerG_hd (t n : Int) (x : DOS) : Heap Mc := [some (.cells [.ptr 1 0, .int .i64 x.code, .bool x.okk, .int .i64 x.val, .bool x.slow, .int .i64 x.sh, .int .i64 x.kd, .int .i64 x.ky, .int .i64 x.limit, .int .i64 x.at', .ptr 2 0, .top, .top, .top, .top, .top, .top, .top, .top]), none, some (.abs (.head t n x.hd) [])]
abbrev doerG_hp (t n : Int) (x : DOS) : Heap Mc := [some (.cells [.ptr 1 0, .int .i64 x.code, .bool x.okk, .int .i64 x.val, .bool x.slow, .int .i64 x.sh, .int .i64 x.kd, .int .i64 x.ky, .int .i64 x.limit, .int .i64 x.at', .top, .ptr 2 0, .top, .top, .top, .top, .top, .top, .top]), none, some (.abs (.help t n x.hp) [1])]
abbrev doerG_en (t n : Int) (x : DOS) : Heap Mc := [some (.cells [.ptr 1 0, .int .i64 x.code, .bool x.okk, .int .i64 x.val, .bool x.slow, .int .i64 x.sh, .int .i64 x.kd, .int .i64 x.ky, .int .i64 x.limit, .int .i64 x.at', .top, .top, .ptr 2 0, .top, .top, .top, .top, .top, .top]), none, some (.abs (.ensure t n x.en) [1])]
abbrev doerG_ft (t n : Int) (x : DOS) : Heap Mc := [some (.cells [.ptr 1 0, .int .i64 x.code, .bool x.okk, .int .i64 x.val, .bool x.slow, .int .i64 x.sh, .int .i64 x.kd, .int .i64 x.ky, .int .i64 x.limit, .int .i64 x.at', .top, .top, .top, .ptr 2 0, .top, .top, .top, .top, .top]), none, some (.abs (.fast t n x.ft) [1])]
abbrev doerG_an (t n : Int) (x : DOS) : Heap Mc := [some (.cells [.ptr 1 0, .int .i64 x.code, .bool x.okk, .int .i64 x.val, .bool x.slow, .int .i64 x.sh, .int .i64 x.kd, .int .i64 x.ky, .int .i64 x.limit, .int .i64 x.at', .top, .top, .top, .top, .ptr 2 0, .top, .top, .top, .top]), none, some (.abs (.announce t n x.an) [])]
abbrev doerG_aw (t n : Int) (x : DOS) : Heap Mc := [some (.cells [.ptr 1 0, .int .i64 x.code, .bool x.okk, .int .i64 x.val, .bool x.slow, .int .i64 x.sh, .int .i64 x.kd, .int .i64 x.ky, .int .i64 x.limit, .int .i64 x.at', .top, .top, .top, .top, .top, .ptr 2 0, .top, .top, .top]), none, some (.abs (.answer t n x.aw) [])]
abbrev doerG_fn (t n : Int) (x : DOS) : Heap Mc := [some (.cells [.ptr 1 0, .int .i64 x.code, .bool x.okk, .int .i64 x.val, .bool x.slow, .int .i64 x.sh, .int .i64 x.kd, .int .i64 x.ky, .int .i64 x.limit, .int .i64 x.at', .top, .top, .top, .top, .top, .top, .ptr 2 0, .top, .top]), none, some (.abs (.find t n x.fn) [])]
abbrev doerG_dr (t n : Int) (x : DOS) : Heap Mc := [some (.cells [.ptr 1 0, .int .i64 x.code, .bool x.okk, .int .i64 x.val, .bool x.slow, .int .i64 x.sh, .int .i64 x.kd, .int .i64 x.ky, .int .i64 x.limit, .int .i64 x.at', .top, .top, .top, .top, .top, .top, .top, .ptr 2 0, .top]), none, some (.abs (.drop t n x.dr) [])]
abbrev doerG_sw (t n : Int) (x : DOS) : Heap Mc := [some (.cells [.ptr 1 0, .int .i64 x.code, .bool x.okk, .int .i64 x.val, .bool x.slow, .int .i64 x.sh, .int .i64 x.kd, .int .i64 x.ky, .int .i64 x.limit, .int .i64 x.at', .top, .top, .top, .top, .top, .top, .top, .top, .ptr 2 0]), none, some (.abs (.sweep t n x.sw) [1])]
def doerG (t n : Int) (x : DOS) : Heap Mc := bif ieq x.at' 0 then doerG_hd t n x else bif ieq x.at' 1 then doerG_hp t n x else bif ieq x.at' 5 then doerG_hp t n x else bif ieq x.at' 2 then doerG_en t n x else bif ieq x.at' 3 then doerG_ft t n x else bif ieq x.at' 4 then doerG_an t n x else bif ieq x.at' 6 then doerG_aw t n x else bif ieq x.at' 7 then doerG_fn t n x else bif ieq x.at' 8 then doerG_dr t n x else bif ieq x.at' 9 then doerG_sw t n x else doerG0 t n x
abbrev evK : List Code1 := [some .i64, none, some .i64, some .i64, some .i64, none, some .i64]
abbrev clK : List Code1 := [some .i64, some .i64, some .i64, some .i64, some .i64, some .i64, some .i64, none, some .i64]
abbrev tkK : List Code1 := [some .i64, some .i64, some .i64]
def hiG (x : HST) : Heap Mc := [some (.cells [.tslice 1 0 x.ev.length 7, .tslice 2 0 x.cl.length 9, .int .i64 x.n0, .int .i64 x.n1, .int .i64 x.n2, .int .i64 x.n3, .int .i64 x.n4, .int .i64 x.n5, .int .i64 x.n6, .int .i64 x.n7]), some (.tab evK x.ev), some (.tab clK x.cl)]
abbrev wkG0 (x : WKS) : Heap Mc := [some (.cells [.ptr 1 0, .tslice 2 0 x.tk.length 3, .int .i64 x.en, .raw (.pointer none), .slice 3 0 x.tl.length 1, .slice 4 0 x.sl.length 1]), some (.abs (.store x.t x.n x.st) []), some (.tab tkK x.tk), some (.ints (some .i64) x.tl), some (.ints (some .i64) x.sl)]
abbrev wkG1 (x : WKS) : Heap Mc := [some (.cells [.ptr 1 0, .tslice 2 0 x.tk.length 3, .int .i64 x.en, .ptr 3 0, .slice 4 0 x.tl.length 1, .slice 5 0 x.sl.length 1]), some (.abs (.store x.t x.n x.st) []), some (.tab tkK x.tk), some (.abs (.doer x.t x.n x.d) [1]), some (.ints (some .i64) x.tl), some (.ints (some .i64) x.sl)]
def wkG (x : WKS) : Heap Mc := bif x.b then wkG1 x else wkG0 x
def egG (x : EGS) : Heap Mc := [some (.cells [.int .i64 x.sh, .int .i64 x.th, .int .i64 x.nd, .int .i64 x.tr, .ptr 1 0, .ptr 3 0, .slice 4 0 x.ws.length 1, .int .i64 x.k]), some (.cells [.int .i64 x.s.t, .int .i64 x.s.n, .slice 2 0 x.s.xs.length 1, .int .i64 x.s.c, .int .i64 x.s.k, .int .i64 x.s.a, .int .u64 x.s.o, .int .u64 x.s.w, .bool x.s.ok]), some (.ints (some .u64) x.s.xs), some (.abs (.hist x.h) []), some (.abs (.wrow x.ws) [])]
def intE : ElS Mc where
  X := List Int
  hd := fun k xs => .slice k 0 xs.length 1
  en := fun xs => .ints (some .i64) xs
def tbl : Mc → Nat × Heap Mc
  | .sweep t n y => (1, swG t n y)
  | .ensure t n e => (1, enG t n e)
  | .store t n s => (0, stG t n s)
  | .clear t n x => (0, clearG t n x)
  | .prepare t n x => (1, prepareG t n x)
  | .head t n x => (0, headG t n x)
  | .drop t n x => (0, dropG t n x)
  | .announce t n x => (0, announceG t n x)
  | .answer t n x => (0, answerG t n x)
  | .exec t n x => (0, execG t n x)
  | .find t n x => (0, findG t n x)
  | .fast t n x => (1, fastG t n x)
  | .help t n x => (1, helpG t n x)
  | .doer t n x => (1, doerG t n x)
  | .hist x => (0, hiG x)
  | .worker x => (0, wkG x)
  | .wrow ws => (0, rowE (ws.map fun w => some (.worker w)))
  | .whole ws i => (1, holeE (ws.map fun w => some (.worker w)) i)
  | .strow ws => (0, rowE (ws.map fun w => some (.store w.t w.n w.st)))
  | .sthole ws i => (1, holeE (ws.map fun w => some (.store w.t w.n w.st)) i)
  | .anrow ws => (0, rowE (ws.map (Option.map fun w => .announce w.t w.n w.x)))
  | .anhole ws i => (1, holeE (ws.map (Option.map fun w => .announce w.t w.n w.x)) i)
  | .exrow ws => (0, rowE (ws.map (Option.map fun w => .exec w.t w.n w.x)))
  | .exhole ws i => (1, holeE (ws.map (Option.map fun w => .exec w.t w.n w.x)) i)
  | .engine x => (0, egG x)
  | .srow ws => (0, rowES intE ws)
  | .shole ws i => (1, holeES intE ws i)
def memH (s : MS) : Heap Ob := [some (.cells [.int .i64 s.t, .int .i64 s.n, .slice 1 0 s.xs.length 1, .int .i64 s.c, .int .i64 s.k, .int .i64 s.a, .int .u64 s.o, .int .u64 s.w, .bool s.ok]), some (.ints (some .u64) s.xs)]
noncomputable def E0 : Env Ob Try.prog where
  I := obI tbl
  cps := fun _ => none
  det := fun _ => none
  meth := methOf Try.prog
  cpsOk := by intro f S h; cases h
  detOk := by intro f S h; cases h
  methOk := fun t n f h v w _ => methOf_run h v w
end Go.Sh

namespace Go.Sh
open Go Go.Proofs
variable [Con]
theorem cond_go {b : Bool} {X Y : Prop} (h1 : b = true → X) (h2 : b = false → Y) : cond b X Y := cond_intro h1 h2

def laySizeS : Spec Ob := fun args h => match args, h with
  | [.agg [.int .i64 t, .int .i64 n]], [] => some (.pre ((0 ≤ t ∧ t ≤ 100000) ∧ (0 ≤ n ∧ n ≤ 100000)) (.ret (.int .i64 (2 * n + 5 * t + 6)) []))
  | _, _ => none
theorem laySize_ok : Spec.ok E0.I Try.prog 29 laySizeS := by
  intro args h o ho K hK
  unfold laySizeS at ho
  split at ho
  case h_2 => cases ho
  rename_i t n
  simp only [Option.some.injEq] at ho; subst ho
  obtain ⟨hp, hK⟩ := hK
  have hK : K (.int .i64 (2 * n + 5 * t + 6)) [] := hK
  refine CallOk.trim (callOk_of (E := E0) Try.checked.mixed (L := fun _ _ => none) (n := 10) (of_nf (q := K (.int .i64 (W (W (W (W (W (W (W (W (W (1 + n) + 4) + W (n + 1)) - 1) + W (2 * t)) + 0) + W (3 * t)) + 0) + 1))) []) (by kernel_rfl) ?_))
  simp (disch := omega) only [W, W_in]
  refine cast (congrArg (fun z => K (AVal.int .i64 z) []) ?_) hK
  omega

def layLifeS : Spec Ob := fun args h => match args, h with
  | [.agg [.int .i64 t, .int .i64 n], .int .i64 a], [] => some (.pre ((0 ≤ t ∧ t ≤ 100000) ∧ (0 ≤ n ∧ n ≤ 100000) ∧ (-1099511627776 ≤ a ∧ a ≤ 1099511627776)) (.ret (.int .i64 (n + 4 + a)) []))
  | _, _ => none
theorem layLife_ok : Spec.ok E0.I Try.prog 19 layLifeS := by
  intro args h o ho K hK
  unfold layLifeS at ho
  split at ho
  case h_2 => cases ho
  rename_i t n a
  simp only [Option.some.injEq] at ho; subst ho
  obtain ⟨hp, hK⟩ := hK
  have hK : K (.int .i64 (n + 4 + a)) [] := hK
  refine CallOk.trim (callOk_of (E := E0) Try.checked.mixed (L := fun _ _ => none) (n := 10) (of_nf (q := K (.int .i64 (W (W (W (W (1 + n) + 4) + a) - 1))) []) (by kernel_rfl) ?_))
  simp (disch := omega) only [W, W_in]
  refine cast (congrArg (fun z => K (AVal.int .i64 z) []) ?_) hK
  omega

def laySlotS : Spec Ob := fun args h => match args, h with
  | [.agg [.int .i64 t, .int .i64 n], .int .i64 a, .int .i64 b], [] => some (.pre ((0 ≤ t ∧ t ≤ 100000) ∧ (0 ≤ n ∧ n ≤ 100000) ∧ (-1099511627776 ≤ a ∧ a ≤ 1099511627776) ∧ (-1099511627776 ≤ b ∧ b ≤ 1099511627776)) (.ret (.int .i64 (2 * n + 5 + 2 * a + b)) []))
  | _, _ => none
theorem laySlot_ok : Spec.ok E0.I Try.prog 63 laySlotS := by
  intro args h o ho K hK
  unfold laySlotS at ho
  split at ho
  case h_2 => cases ho
  rename_i t n a b
  simp only [Option.some.injEq] at ho; subst ho
  obtain ⟨hp, hK⟩ := hK
  have hK : K (.int .i64 (2 * n + 5 + 2 * a + b)) [] := hK
  refine CallOk.trim (callOk_of (E := E0) Try.checked.mixed (L := fun _ _ => none) (n := 10) (of_nf (q := K (.int .i64 (W (W (W (W (W (W (1 + n) + 4) + W (n + 1)) - 1) + W (2 * a)) + b))) []) (by kernel_rfl) ?_))
  simp (disch := omega) only [W, W_in]
  refine cast (congrArg (fun z => K (AVal.int .i64 z) []) ?_) hK
  omega

def layDescS : Spec Ob := fun args h => match args, h with
  | [.agg [.int .i64 t, .int .i64 n], .int .i64 a], [] => some (.pre ((0 ≤ t ∧ t ≤ 100000) ∧ (0 ≤ n ∧ n ≤ 100000) ∧ (-1099511627776 ≤ a ∧ a ≤ 1099511627776)) (.ret (.int .i64 (2 * n + 5 + 2 * t + 3 * a + 2)) []))
  | _, _ => none
theorem layDesc_ok : Spec.ok E0.I Try.prog 13 layDescS := by
  intro args h o ho K hK
  unfold layDescS at ho
  split at ho
  case h_2 => cases ho
  rename_i t n a
  simp only [Option.some.injEq] at ho; subst ho
  obtain ⟨hp, hK⟩ := hK
  have hK : K (.int .i64 (2 * n + 5 + 2 * t + 3 * a + 2)) [] := hK
  refine CallOk.trim (callOk_of (E := E0) Try.checked.mixed (L := fun _ _ => none) (n := 10) (of_nf (q := K (.int .i64 (W (W (W (W (W (W (W (W (1 + n) + 4) + W (n + 1)) - 1) + W (2 * t)) + 0) + W (3 * a)) + 2))) []) (by kernel_rfl) ?_))
  simp (disch := omega) only [W, W_in]
  refine cast (congrArg (fun z => K (AVal.int .i64 z) []) ?_) hK
  omega

def layTaskS : Spec Ob := fun args h => match args, h with
  | [.agg [.int .i64 t, .int .i64 n], .int .i64 a], [] => some (.pre ((0 ≤ t ∧ t ≤ 100000) ∧ (0 ≤ n ∧ n ≤ 100000) ∧ (-1099511627776 ≤ a ∧ a ≤ 1099511627776)) (.ret (.int .i64 (2 * n + 5 + 2 * t + 3 * a + 1)) []))
  | _, _ => none
theorem layTask_ok : Spec.ok E0.I Try.prog 33 layTaskS := by
  intro args h o ho K hK
  unfold layTaskS at ho
  split at ho
  case h_2 => cases ho
  rename_i t n a
  simp only [Option.some.injEq] at ho; subst ho
  obtain ⟨hp, hK⟩ := hK
  have hK : K (.int .i64 (2 * n + 5 + 2 * t + 3 * a + 1)) [] := hK
  refine CallOk.trim (callOk_of (E := E0) Try.checked.mixed (L := fun _ _ => none) (n := 10) (of_nf (q := K (.int .i64 (W (W (W (W (W (W (W (W (1 + n) + 4) + W (n + 1)) - 1) + W (2 * t)) + 0) + W (3 * a)) + 1))) []) (by kernel_rfl) ?_))
  simp (disch := omega) only [W, W_in]
  refine cast (congrArg (fun z => K (AVal.int .i64 z) []) ?_) hK
  omega

def layTicketS : Spec Ob := fun args h => match args, h with
  | [.agg [.int .i64 t, .int .i64 n], .int .i64 a], [] => some (.pre ((0 ≤ t ∧ t ≤ 100000) ∧ (0 ≤ n ∧ n ≤ 100000) ∧ (-1099511627776 ≤ a ∧ a ≤ 1099511627776)) (.ret (.int .i64 (2 * n + 5 + 2 * t + 3 * a)) []))
  | _, _ => none
theorem layTicket_ok : Spec.ok E0.I Try.prog 11 layTicketS := by
  intro args h o ho K hK
  unfold layTicketS at ho
  split at ho
  case h_2 => cases ho
  rename_i t n a
  simp only [Option.some.injEq] at ho; subst ho
  obtain ⟨hp, hK⟩ := hK
  have hK : K (.int .i64 (2 * n + 5 + 2 * t + 3 * a)) [] := hK
  refine CallOk.trim (callOk_of (E := E0) Try.checked.mixed (L := fun _ _ => none) (n := 10) (of_nf (q := K (.int .i64 (W (W (W (W (W (W (W (W (1 + n) + 4) + W (n + 1)) - 1) + W (2 * t)) + 0) + W (3 * a)) + 0))) []) (by kernel_rfl) ?_))
  simp (disch := omega) only [W, W_in]
  refine cast (congrArg (fun z => K (AVal.int .i64 z) []) ?_) hK
  omega

def layCounterS : Spec Ob := fun args h => match args, h with
  | [.agg [.int .i64 t, .int .i64 n]], [] => some (.pre ((0 ≤ t ∧ t ≤ 100000) ∧ (0 ≤ n ∧ n ≤ 100000)) (.ret (.int .i64 (2 * n + 5 + 2 * t + 3 * t)) []))
  | _, _ => none
theorem layCounter_ok : Spec.ok E0.I Try.prog 15 layCounterS := by
  intro args h o ho K hK
  unfold layCounterS at ho
  split at ho
  case h_2 => cases ho
  rename_i t n
  simp only [Option.some.injEq] at ho; subst ho
  obtain ⟨hp, hK⟩ := hK
  have hK : K (.int .i64 (2 * n + 5 + 2 * t + 3 * t)) [] := hK
  refine CallOk.trim (callOk_of (E := E0) Try.checked.mixed (L := fun _ _ => none) (n := 10) (of_nf (q := K (.int .i64 (W (W (W (W (W (W (W (W (1 + n) + 4) + W (n + 1)) - 1) + W (2 * t)) + 0) + W (3 * t)) + 0))) []) (by kernel_rfl) ?_))
  simp (disch := omega) only [W, W_in]
  refine cast (congrArg (fun z => K (AVal.int .i64 z) []) ?_) hK
  omega

def rightB (t n : Int) : Bool := ile 1 t && ile t 8 && ile 1 n && ile n 200
theorem rightB_true {t n : Int} : rightB t n = true ↔ 1 ≤ t ∧ t ≤ 8 ∧ 1 ≤ n ∧ n ≤ 200 := by
  unfold rightB; simp only [ile_eq, Bool.and_eq_true, decide_eq_true_eq]; omega
def nodeB (n a : Int) : Bool := ile 1 a && ile a n
def layRightS : Spec Ob := fun args h => match args, h with
  | [.agg [.int .i64 t, .int .i64 n]], [] => some (.pre (True) (.ret (.bool (rightB t n)) []))
  | _, _ => none
theorem layRight_ok : Spec.ok E0.I Try.prog 28 layRightS := by
  intro args h o ho K hK
  unfold layRightS at ho
  split at ho
  case h_2 => cases ho
  rename_i t n
  simp only [Option.some.injEq] at ho; subst ho
  obtain ⟨hp, hK⟩ := hK
  have hK : K (.bool (rightB t n)) [] := hK
  refine CallOk.trim (callOk_of (E := E0) Try.checked.mixed (L := fun _ _ => none) (n := 10) (of_nf (q := bif ile 1 t then bif ile t 8 then bif ile 1 n then K (.bool (ile n 200)) [] else K (.bool false) [] else K (.bool false) [] else K (.bool false) []) (by kernel_rfl) ?_))
  unfold rightB at hK
  refine cond_go (fun e1 => cond_go (fun e2 => cond_go (fun e3 => ?_) (fun e3 => ?_)) (fun e2 => ?_)) (fun e1 => ?_)
  all_goals (simp only [*, Bool.true_and, Bool.false_and, Bool.and_false] at hK; exact hK)

def layNodeS : Spec Ob := fun args h => match args, h with
  | [.agg [.int .i64 t, .int .i64 n], .int .i64 a], [] => some (.pre (True) (.ret (.bool (nodeB n a)) []))
  | _, _ => none
theorem layNode_ok : Spec.ok E0.I Try.prog 54 layNodeS := by
  intro args h o ho K hK
  unfold layNodeS at ho
  split at ho
  case h_2 => cases ho
  rename_i t n a
  simp only [Option.some.injEq] at ho; subst ho
  obtain ⟨hp, hK⟩ := hK
  have hK : K (.bool (nodeB n a)) [] := hK
  refine CallOk.trim (callOk_of (E := E0) Try.checked.mixed (L := fun _ _ => none) (n := 10) (of_nf (q := bif ile 1 a then K (.bool (ile a n)) [] else K (.bool false) []) (by kernel_rfl) ?_))
  unfold nodeB at hK
  refine cond_go (fun e1 => ?_) (fun e1 => ?_)
  all_goals (simp only [*, Bool.true_and, Bool.false_and, Bool.and_false] at hK; exact hK)

noncomputable def E1 := (((((((((E0.addS 29 laySizeS laySize_ok).addS 19 layLifeS layLife_ok).addS 63 laySlotS laySlot_ok).addS 13 layDescS layDesc_ok).addS 33 layTaskS layTask_ok).addS 11 layTicketS layTicket_ok).addS 15 layCounterS layCounter_ok)).addS 28 layRightS layRight_ok).addS 54 layNodeS layNode_ok

def peek (xs : List Int) (a : Int) : Int := if 0 ≤ a ∧ a < xs.length then xs.getD a.toNat 0 else 0
theorem peek_in {xs : List Int} {a : Int} (h : 0 ≤ a ∧ a < xs.length) : peek xs a = xs.getD a.toNat 0 := if_pos h
theorem peek_out {xs : List Int} {a : Int} (h : ¬ (0 ≤ a ∧ a < xs.length)) : peek xs a = 0 := if_neg h
def inB (xs : List Int) (a : Int) : Bool := ile 0 a && ilt a (xs.length : Int)
theorem inB_true {xs : List Int} {a : Int} : inB xs a = true ↔ 0 ≤ a ∧ a < xs.length := by
  unfold inB; simp only [ile_eq, ilt_eq, Bool.and_eq_true, decide_eq_true_eq]
def setI (xs : List Int) (a x : Int) : List Int := xs.set a.toNat x
def MS.did (s : MS) (k a w : Int) (ok : Bool) (xs : List Int) : MS := { s with xs := xs, c := s.c + 1, k := k, a := a, o := peek s.xs a, w := w, ok := ok }
def MS.load (s : MS) (a : Int) : MS := s.did 1 a (peek s.xs a) (inB s.xs a) s.xs
def MS.store (s : MS) (a x : Int) : MS := bif inB s.xs a then s.did 2 a x true (setI s.xs a x) else s.did 2 a 0 false s.xs

def memPat (h : Heap Ob) : Option (Nat × MS) := match h with
  | [some (.cells [.int .i64 t, .int .i64 n, .slice 1 0 len 1, .int .i64 c, .int .i64 k, .int .i64 a, .int .u64 o, .int .u64 w, .bool ok]), some (.ints (some .u64) xs)] => some (len, ⟨t, n, xs, c, k, a, o, w, ok⟩)
  | _ => none

theorem memPat_eq {h : Heap Ob} {l : Nat} {s : MS} (e : memPat h = some (l, s)) (hl : l = s.xs.length) : h = memH s := by
  unfold memPat at e
  split at e
  · simp only [Option.some.injEq, Prod.mk.injEq] at e
    obtain ⟨rfl, rfl⟩ := e
    simp only at hl; subst hl; rfl
  · cases e
theorem nat_id (x : Nat) : 0 + x * 1 = x := by omega

def peekS : Spec Ob := fun args h => match args, memPat h with
  | [.ptr 0 0, .int .i64 a], some (l, s) => some (.pre (l = s.xs.length ∧ True) (.ret (.int .u64 (peek s.xs a)) (memH (s))))
  | _, _ => none
theorem peek_ok : Spec.ok E1.I Try.prog 10 peekS := by
  intro args h o ho K hK
  unfold peekS at ho
  split at ho
  case h_2 => cases ho
  rename_i a l s hm
  simp only [Option.some.injEq] at ho; subst ho
  obtain ⟨⟨hl, hp⟩, hK⟩ := hK
  have hh := memPat_eq hm hl
  subst hh
  have hK : K (.int .u64 (peek s.xs a)) (memH (s)) := hK
  refine CallOk.trim (callOk_of (E := E1) Try.checked.mixed (L := fun _ _ => none) (n := 10) (of_nf (q := bif ilt a 0 then K (.int .u64 0) [some (.cells [.int .i64 s.1, .int .i64 s.2, .slice 1 0 (List.length s.3) 1, .int .i64 s.4, .int .i64 s.5, .int .i64 s.6, .int .u64 s.7, .int .u64 s.8, .bool s.9]), some (.ints (some .u64) s.3)] else bif ile (↑(List.length s.3) : Int) a then K (.int .u64 0) [some (.cells [.int .i64 s.1, .int .i64 s.2, .slice 1 0 (List.length s.3) 1, .int .i64 s.4, .int .i64 s.5, .int .i64 s.6, .int .u64 s.7, .int .u64 s.8, .bool s.9]), some (.ints (some .u64) s.3)] else ((0 : Int) ≤ a ∧ a < (↑(List.length s.3) : Int)) ∧ 0 + Int.toNat a * (1 : Nat) < List.length s.3 ∧ K (.int .u64 (List.getD s.3 (0 + Int.toNat a * 1) 0)) [some (.cells [.int .i64 s.1, .int .i64 s.2, .slice 1 0 (List.length s.3) 1, .int .i64 s.4, .int .i64 s.5, .int .i64 s.6, .int .u64 s.7, .int .u64 s.8, .bool s.9]), some (.ints (some .u64) s.3)]) (by kernel_rfl) ?_))
  refine cond_go (fun e1 => ?_) (fun e1 => cond_go (fun e2 => ?_) (fun e2 => ?_))
  · rw [ilt_eq, decide_eq_true_eq] at e1
    rw [peek_out (by omega)] at hK; exact hK
  · rw [ile_eq, decide_eq_true_eq] at e2
    rw [peek_out (by omega)] at hK; exact hK
  · rw [ilt_eq, decide_eq_false_iff_not] at e1
    rw [ile_eq, decide_eq_false_iff_not] at e2
    refine ⟨by omega, by omega, ?_⟩
    rw [peek_in (by omega)] at hK
    rw [nat_id]; exact hK

noncomputable def E2 := (((E1.addS 10 peekS peek_ok)))

end Go.Sh

namespace Go.Sh
open Go Go.Proofs
variable [Con]
def putI (xs : List Int) (a x : Int) : List Int := if 0 ≤ a ∧ a < xs.length then xs.set a.toNat x else xs
theorem putI_length (xs : List Int) (a x : Int) : (putI xs a x).length = xs.length := by unfold putI; split <;> simp
theorem putI_in {xs : List Int} {a x : Int} (h : 0 ≤ a ∧ a < xs.length) : putI xs a x = xs.set a.toNat x := if_pos h
theorem putI_out {xs : List Int} {a x : Int} (h : ¬ (0 ≤ a ∧ a < xs.length)) : putI xs a x = xs := if_neg h
theorem inB_false {xs : List Int} {a : Int} (h : ¬ (0 ≤ a ∧ a < xs.length)) : inB xs a = false := by
  cases e : inB xs a with
  | false => rfl
  | true => exact (h (inB_true.1 e)).elim
theorem set_peek {xs : List Int} {a : Int} (h : 0 ≤ a ∧ a < xs.length) : xs.set a.toNat (peek xs a) = xs := by
  rw [peek_in h]
  apply List.ext_getElem?
  intro i
  rw [List.getElem?_set]
  by_cases hi : a.toNat = i
  · subst hi
    have : a.toNat < xs.length := by omega
    simp [this]
  · simp [hi]
def MS.loadd (s : MS) (a : Int) : MS := s.did 1 a (peek s.xs a) (inB s.xs a) s.xs
def MS.stored (s : MS) (a x : Int) : MS := s.did 2 a (bif inB s.xs a then x else 0) (inB s.xs a) (putI s.xs a x)
def casB (xs : List Int) (a x : Int) : Bool := inB xs a && ieq (peek xs a) x
def MS.cased (s : MS) (a x y : Int) : MS := s.did 3 a (bif inB s.xs a then y else 0) (casB s.xs a x) (bif casB s.xs a x then putI s.xs a y else s.xs)
def MS.added (s : MS) (a x : Int) : MS := s.did 4 a (bif inB s.xs a then IntKind.wrap .u64 (peek s.xs a + x) else 0) (inB s.xs a) (putI s.xs a (IntKind.wrap .u64 (peek s.xs a + x)))
theorem memH_did (s : MS) (k a w : Int) (ok : Bool) (xs : List Int) (h : xs.length = s.xs.length) : memH (s.did k a w ok xs) = [some (.cells [.int .i64 s.t, .int .i64 s.n, .slice 1 0 s.xs.length 1, .int .i64 (s.c + 1), .int .i64 k, .int .i64 a, .int .u64 (peek s.xs a), .int .u64 w, .bool ok]), some (.ints (some .u64) xs)] := by
  unfold memH MS.did
  simp only [h]

def loadS : Spec Ob := fun args h => match args, memPat h with
  | [.ptr 0 0, .int .i64 a], some (l, s) => some (.pre (l = s.xs.length ∧ (0 ≤ s.c ∧ s.c ≤ 4611686018427387904)) (.ret (.int .u64 (peek s.xs a)) (memH (s.loadd a))))
  | _, _ => none
theorem load_ok : Spec.ok E2.I Try.prog 31 loadS := by
  intro args h o ho K hK
  unfold loadS at ho
  split at ho
  case h_2 => cases ho
  rename_i a l s hm
  simp only [Option.some.injEq] at ho; subst ho
  obtain ⟨⟨hl, hp⟩, hK⟩ := hK
  have hh := memPat_eq hm hl
  subst hh
  have hK : K (.int .u64 (peek s.xs a)) (memH (s.loadd a)) := hK
  refine CallOk.trim (callOk_of (E := E2) Try.checked.mixed (L := fun _ _ => none) (n := 10) (of_nf (q := (List.length s.3 = List.length s.3 ∧ True) ∧ bif ilt a 0 then K (.int .u64 (peek s.3 a)) [some (.cells [.int .i64 s.1, .int .i64 s.2, .slice 1 0 (List.length s.3) 1, .int .i64 (W (s.4 + 1)), .int .i64 1, .int .i64 a, .int .u64 (peek s.3 a), .int .u64 (peek s.3 a), .bool false]), some (.ints (some .u64) s.3)] else bif ile (↑(List.length s.3) : Int) a then K (.int .u64 (peek s.3 a)) [some (.cells [.int .i64 s.1, .int .i64 s.2, .slice 1 0 (List.length s.3) 1, .int .i64 (W (s.4 + 1)), .int .i64 1, .int .i64 a, .int .u64 (peek s.3 a), .int .u64 (peek s.3 a), .bool false]), some (.ints (some .u64) s.3)] else ((0 : Int) ≤ a ∧ a < (↑(List.length s.3) : Int)) ∧ 0 + Int.toNat a * (1 : Nat) < List.length s.3 ∧ K (.int .u64 (peek s.3 a)) [some (.cells [.int .i64 s.1, .int .i64 s.2, .slice 1 0 (List.length s.3) 1, .int .i64 (W (s.4 + 1)), .int .i64 1, .int .i64 a, .int .u64 (peek s.3 a), .int .u64 (peek s.3 a), .bool true]), some (.ints (some .u64) (List.set s.3 (0 + Int.toNat a * 1) (peek s.3 a)))]) (by kernel_rfl) ?_))
  refine ⟨⟨rfl, trivial⟩, ?_⟩
  have hc : IntKind.wrap .i64 (s.c + 1) = s.c + 1 := W_in (by omega)
  simp only [W, WU, hc, nat_id]
  unfold MS.loadd at hK
  rw [memH_did _ _ _ _ _ _ rfl] at hK
  refine cond_go (fun e1 => ?_) (fun e1 => cond_go (fun e2 => ?_) (fun e2 => ?_))
  · rw [ilt_eq, decide_eq_true_eq] at e1
    rw [inB_false (by omega)] at hK; exact hK
  · rw [ile_eq, decide_eq_true_eq] at e2
    rw [inB_false (by omega)] at hK; exact hK
  · rw [ilt_eq, decide_eq_false_iff_not] at e1
    rw [ile_eq, decide_eq_false_iff_not] at e2
    refine ⟨by omega, by omega, ?_⟩
    rw [inB_true.2 (by omega)] at hK
    rw [set_peek (by omega)]; exact hK

def storeS : Spec Ob := fun args h => match args, memPat h with
  | [.ptr 0 0, .int .i64 a, .int .u64 x], some (l, s) => some (.pre (l = s.xs.length ∧ (0 ≤ s.c ∧ s.c ≤ 4611686018427387904)) (.ret (.tup []) (memH (s.stored a x))))
  | _, _ => none
theorem store_ok : Spec.ok E2.I Try.prog 32 storeS := by
  intro args h o ho K hK
  unfold storeS at ho
  split at ho
  case h_2 => cases ho
  rename_i a x l s hm
  simp only [Option.some.injEq] at ho; subst ho
  obtain ⟨⟨hl, hp⟩, hK⟩ := hK
  have hh := memPat_eq hm hl
  subst hh
  have hK : K (.tup []) (memH (s.stored a x)) := hK
  refine CallOk.trim (callOk_of (E := E2) Try.checked.mixed (L := fun _ _ => none) (n := 10) (of_nf (q := (List.length s.3 = List.length s.3 ∧ True) ∧ bif ilt a 0 then K (.tup []) [some (.cells [.int .i64 s.1, .int .i64 s.2, .slice 1 0 (List.length s.3) 1, .int .i64 (W (s.4 + 1)), .int .i64 2, .int .i64 a, .int .u64 (peek s.3 a), .int .u64 (peek s.3 a), .bool false]), some (.ints (some .u64) s.3)] else bif ile (↑(List.length s.3) : Int) a then K (.tup []) [some (.cells [.int .i64 s.1, .int .i64 s.2, .slice 1 0 (List.length s.3) 1, .int .i64 (W (s.4 + 1)), .int .i64 2, .int .i64 a, .int .u64 (peek s.3 a), .int .u64 (peek s.3 a), .bool false]), some (.ints (some .u64) s.3)] else ((0 : Int) ≤ a ∧ a < (↑(List.length s.3) : Int)) ∧ 0 + Int.toNat a * (1 : Nat) < List.length s.3 ∧ K (.tup []) [some (.cells [.int .i64 s.1, .int .i64 s.2, .slice 1 0 (List.length s.3) 1, .int .i64 (W (s.4 + 1)), .int .i64 2, .int .i64 a, .int .u64 (peek s.3 a), .int .u64 x, .bool true]), some (.ints (some .u64) (List.set s.3 (0 + Int.toNat a * 1) x))]) (by kernel_rfl) ?_))
  refine ⟨⟨rfl, trivial⟩, ?_⟩
  have hc : IntKind.wrap .i64 (s.c + 1) = s.c + 1 := W_in (by omega)
  simp only [W, WU, hc, nat_id]
  unfold MS.stored at hK
  rw [memH_did _ _ _ _ _ _ (putI_length _ _ _)] at hK
  refine cond_go (fun e1 => ?_) (fun e1 => cond_go (fun e2 => ?_) (fun e2 => ?_))
  · rw [ilt_eq, decide_eq_true_eq] at e1
    rw [inB_false (by omega), putI_out (by omega)] at hK
    rw [peek_out (by omega)] at hK ⊢; exact hK
  · rw [ile_eq, decide_eq_true_eq] at e2
    rw [inB_false (by omega), putI_out (by omega)] at hK
    rw [peek_out (by omega)] at hK ⊢; exact hK
  · rw [ilt_eq, decide_eq_false_iff_not] at e1
    rw [ile_eq, decide_eq_false_iff_not] at e2
    refine ⟨by omega, by omega, ?_⟩
    rw [inB_true.2 (by omega), putI_in (by omega)] at hK
    exact hK

def casS : Spec Ob := fun args h => match args, memPat h with
  | [.ptr 0 0, .int .i64 a, .int .u64 x, .int .u64 y], some (l, s) => some (.pre (l = s.xs.length ∧ (0 ≤ s.c ∧ s.c ≤ 4611686018427387904)) (.ret (.bool (casB s.xs a x)) (memH (s.cased a x y))))
  | _, _ => none
theorem cas_ok : Spec.ok E2.I Try.prog 67 casS := by
  intro args h o ho K hK
  unfold casS at ho
  split at ho
  case h_2 => cases ho
  rename_i a x y l s hm
  simp only [Option.some.injEq] at ho; subst ho
  obtain ⟨⟨hl, hp⟩, hK⟩ := hK
  have hh := memPat_eq hm hl
  subst hh
  have hK : K (.bool (casB s.xs a x)) (memH (s.cased a x y)) := hK
  refine CallOk.trim (callOk_of (E := E2) Try.checked.mixed (L := fun _ _ => none) (n := 10) (of_nf (q := (List.length s.3 = List.length s.3 ∧ True) ∧ bif ilt a 0 then K (.bool false) [some (.cells [.int .i64 s.1, .int .i64 s.2, .slice 1 0 (List.length s.3) 1, .int .i64 (W (s.4 + 1)), .int .i64 3, .int .i64 a, .int .u64 (peek s.3 a), .int .u64 (peek s.3 a), .bool false]), some (.ints (some .u64) s.3)] else bif ile (↑(List.length s.3) : Int) a then K (.bool false) [some (.cells [.int .i64 s.1, .int .i64 s.2, .slice 1 0 (List.length s.3) 1, .int .i64 (W (s.4 + 1)), .int .i64 3, .int .i64 a, .int .u64 (peek s.3 a), .int .u64 (peek s.3 a), .bool false]), some (.ints (some .u64) s.3)] else bif ieq (peek s.3 a) x then ((0 : Int) ≤ a ∧ a < (↑(List.length s.3) : Int)) ∧ 0 + Int.toNat a * (1 : Nat) < List.length s.3 ∧ K (.bool (ieq (peek s.3 a) x)) [some (.cells [.int .i64 s.1, .int .i64 s.2, .slice 1 0 (List.length s.3) 1, .int .i64 (W (s.4 + 1)), .int .i64 3, .int .i64 a, .int .u64 (peek s.3 a), .int .u64 y, .bool (ieq (peek s.3 a) x)]), some (.ints (some .u64) (List.set s.3 (0 + Int.toNat a * 1) y))] else K (.bool (ieq (peek s.3 a) x)) [some (.cells [.int .i64 s.1, .int .i64 s.2, .slice 1 0 (List.length s.3) 1, .int .i64 (W (s.4 + 1)), .int .i64 3, .int .i64 a, .int .u64 (peek s.3 a), .int .u64 y, .bool (ieq (peek s.3 a) x)]), some (.ints (some .u64) s.3)]) (by kernel_rfl) ?_))
  refine ⟨⟨rfl, trivial⟩, ?_⟩
  have hc : IntKind.wrap .i64 (s.c + 1) = s.c + 1 := W_in (by omega)
  simp only [W, WU, hc, nat_id]
  unfold MS.cased at hK
  rw [memH_did _ _ _ _ _ _ (by cases casB s.xs a x <;> first | exact putI_length _ _ _ | rfl)] at hK
  unfold casB at hK
  refine cond_go (fun e1 => ?_) (fun e1 => cond_go (fun e2 => ?_) (fun e2 => ?_))
  · rw [ilt_eq, decide_eq_true_eq] at e1
    rw [inB_false (by omega)] at hK
    rw [peek_out (by omega)] at hK ⊢; exact hK
  · rw [ile_eq, decide_eq_true_eq] at e2
    rw [inB_false (by omega)] at hK
    rw [peek_out (by omega)] at hK ⊢; exact hK
  · rw [ilt_eq, decide_eq_false_iff_not] at e1
    rw [ile_eq, decide_eq_false_iff_not] at e2
    rw [inB_true.2 (by omega), putI_in (by omega)] at hK
    simp only [Bool.true_and, cond_true] at hK
    refine cond_go (fun e3 => ⟨by omega, by omega, ?_⟩) (fun e3 => ?_)
    · rw [e3] at hK ⊢; exact hK
    · rw [e3] at hK ⊢; exact hK

def addS : Spec Ob := fun args h => match args, memPat h with
  | [.ptr 0 0, .int .i64 a, .int .u64 x], some (l, s) => some (.pre (l = s.xs.length ∧ (0 ≤ s.c ∧ s.c ≤ 4611686018427387904)) (.ret (.int .u64 (peek s.xs a)) (memH (s.added a x))))
  | _, _ => none
theorem add_ok : Spec.ok E2.I Try.prog 34 addS := by
  intro args h o ho K hK
  unfold addS at ho
  split at ho
  case h_2 => cases ho
  rename_i a x l s hm
  simp only [Option.some.injEq] at ho; subst ho
  obtain ⟨⟨hl, hp⟩, hK⟩ := hK
  have hh := memPat_eq hm hl
  subst hh
  have hK : K (.int .u64 (peek s.xs a)) (memH (s.added a x)) := hK
  refine CallOk.trim (callOk_of (E := E2) Try.checked.mixed (L := fun _ _ => none) (n := 10) (of_nf (q := (List.length s.3 = List.length s.3 ∧ True) ∧ bif ilt a 0 then K (.int .u64 (peek s.3 a)) [some (.cells [.int .i64 s.1, .int .i64 s.2, .slice 1 0 (List.length s.3) 1, .int .i64 (W (s.4 + 1)), .int .i64 4, .int .i64 a, .int .u64 (peek s.3 a), .int .u64 (peek s.3 a), .bool false]), some (.ints (some .u64) s.3)] else bif ile (↑(List.length s.3) : Int) a then K (.int .u64 (peek s.3 a)) [some (.cells [.int .i64 s.1, .int .i64 s.2, .slice 1 0 (List.length s.3) 1, .int .i64 (W (s.4 + 1)), .int .i64 4, .int .i64 a, .int .u64 (peek s.3 a), .int .u64 (peek s.3 a), .bool false]), some (.ints (some .u64) s.3)] else ((0 : Int) ≤ a ∧ a < (↑(List.length s.3) : Int)) ∧ 0 + Int.toNat a * (1 : Nat) < List.length s.3 ∧ K (.int .u64 (peek s.3 a)) [some (.cells [.int .i64 s.1, .int .i64 s.2, .slice 1 0 (List.length s.3) 1, .int .i64 (W (s.4 + 1)), .int .i64 4, .int .i64 a, .int .u64 (peek s.3 a), .int .u64 (WU (peek s.3 a + x)), .bool true]), some (.ints (some .u64) (List.set s.3 (0 + Int.toNat a * 1) (WU (peek s.3 a + x))))]) (by kernel_rfl) ?_))
  refine ⟨⟨rfl, trivial⟩, ?_⟩
  have hc : IntKind.wrap .i64 (s.c + 1) = s.c + 1 := W_in (by omega)
  simp only [W, WU, hc, nat_id]
  unfold MS.added at hK
  rw [memH_did _ _ _ _ _ _ (putI_length _ _ _)] at hK
  refine cond_go (fun e1 => ?_) (fun e1 => cond_go (fun e2 => ?_) (fun e2 => ?_))
  · rw [ilt_eq, decide_eq_true_eq] at e1
    rw [inB_false (by omega), putI_out (by omega)] at hK
    rw [peek_out (by omega)] at hK ⊢; exact hK
  · rw [ile_eq, decide_eq_true_eq] at e2
    rw [inB_false (by omega), putI_out (by omega)] at hK
    rw [peek_out (by omega)] at hK ⊢; exact hK
  · rw [ilt_eq, decide_eq_false_iff_not] at e1
    rw [ile_eq, decide_eq_false_iff_not] at e2
    refine ⟨by omega, by omega, ?_⟩
    rw [inB_true.2 (by omega), putI_in (by omega)] at hK
    exact hK

noncomputable def E3 := (((E2.addS 31 loadS load_ok).addS 32 storeS store_ok).addS 67 casS cas_ok).addS 34 addS add_ok

end Go.Sh

namespace Go.Sh
open Go Go.Proofs
variable [Con]
noncomputable def E4a := E3

noncomputable def E4 := E4a

end Go.Sh

namespace Go.Sh
open Go Go.Proofs
variable [Con]
noncomputable def LL : FuncId → Nat → Option (Plan Ob) := fun _ _ => some (.rounds 12)

noncomputable def E5 := E4

end Go.Sh

namespace Go.Sh
open Go Go.Proofs
variable [Con]
def cloneS : Spec Ob := fun args h => match args, h with
  | [.slice 0 0 n 1], [some (.ints (some .i64) xs)] => some (.pre (n = xs.length ∧ n ≤ 4294967296) (.ret (.slice 1 0 xs.length 1) [some (.ints (some .i64) xs), some (.ints (some .i64) xs)]))
  | _, _ => none
def sameB (xs ys : List Int) : Bool := decide (xs = ys)
theorem sameB_true {xs ys : List Int} : sameB xs ys = true ↔ xs = ys := by unfold sameB; exact decide_eq_true_iff
structure okI (xs ys : List Int) (i : Nat) : Prop where
  h1 : i ≤ xs.length
  h2 : xs.length = ys.length
  h3 : xs.take i = ys.take i
def HI (xs ys : List Int) : Hint Ob := { X := Nat, st := fun i => ([.slice 0 0 xs.length 1, .slice 1 0 ys.length 1, .top, .top, .top, .int .i64 (i : Int)] ++ List.replicate 20 .top, [some (.ints (some .i64) xs), some (.ints (some .i64) ys)]), ok := okI xs ys, mu := fun i => xs.length - i, keep := [0, 1, 5] }
def intsS0 : Spec Ob := fun args h => match args, h with
  | [.slice 0 0 n 1, .slice 1 0 m 1], [some (.ints (some .i64) xs), some (.ints (some .i64) ys)] => some (.pre ((n = xs.length ∧ m = ys.length) ∧ n ≤ 4294967296) (.ret (.bool (sameB xs ys)) [some (.ints (some .i64) xs), some (.ints (some .i64) ys)]))
  | _, _ => none
theorem ints0_ok : Spec.ok E5.I Try.prog 24 intsS0 := by
  intro args h o ho K hK
  unfold intsS0 at ho
  split at ho
  case h_2 => cases ho
  rename_i n m xs ys
  simp only [Option.some.injEq] at ho; subst ho
  obtain ⟨⟨⟨rfl, rfl⟩, hp⟩, hK⟩ := hK
  have hK : K (.bool (sameB xs ys)) [some (.ints (some .i64) xs), some (.ints (some .i64) ys)] := hK
  refine (callOk_of (E := E5) Try.checked.mixed (L := fun _ _ => some (.states (HI xs ys))) (n := 10) (of_nf (q := bif !ieq (↑(List.length xs) : Int) (↑(List.length ys) : Int) then K (.bool false) [some (.ints (some .i64) xs), some (.ints (some .i64) ys)] else okSt (HI xs ys) (Hint.ok (HI xs ys)) [.slice 0 0 (List.length xs) 1, .slice 1 0 (List.length ys) 1, .top, .top, .top, .int .i64 0, .top, .top, .top, .top, .top, .top, .top, .top, .top, .top, .top, .top, .top, .top, .top, .top, .top, .top, .top, .top] [some (.ints (some .i64) xs), some (.ints (some .i64) ys)] ∧ ∀ (x : Nat), okI xs ys x → bif ilt (↑x : Int) (↑(List.length xs) : Int) then ((0 : Int) ≤ (↑x : Int) ∧ (↑x : Int) < (↑(List.length xs) : Int)) ∧ 0 + Int.toNat (↑x : Int) * (1 : Nat) < List.length xs ∧ ((0 : Int) ≤ (↑x : Int) ∧ (↑x : Int) < (↑(List.length ys) : Int)) ∧ 0 + Int.toNat (↑x : Int) * (1 : Nat) < List.length ys ∧ bif !ieq (List.getD xs (0 + Int.toNat (↑x : Int) * 1) 0) (List.getD ys (0 + Int.toNat (↑x : Int) * 1) 0) then K (.bool false) [some (.ints (some .i64) xs), some (.ints (some .i64) ys)] else okSt (HI xs ys) (fun x' => Hint.ok (HI xs ys) x' ∧ Hint.mu (HI xs ys) x' < Hint.mu (HI xs ys) x) [.slice 0 0 (List.length xs) 1, .slice 1 0 (List.length ys) 1, .top, .top, .top, .int .i64 (W ((↑x : Int) + 1)), .top, .top, .top, .top, .top, .top, .top, .top, .top, .top, .top, .top, .top, .top, .top, .top, .top, .top, .top, .top] [some (.ints (some .i64) xs), some (.ints (some .i64) ys)] else K (.bool true) [some (.ints (some .i64) xs), some (.ints (some .i64) ys)]) (by kernel_rfl) ?_))
  have hS : sameB xs ys = decide (xs = ys) := rfl
  refine cond_go (fun e => ?_) (fun e => ⟨okSt_intro (H := HI xs ys) (0 : Nat) rfl ⟨Nat.zero_le _, ?_, rfl⟩, ?_⟩)
  · rw [ieq_eq] at e
    have : xs ≠ ys := by rintro rfl; simp at e
    rw [hS, decide_eq_false this] at hK; exact hK
  · rw [ieq_eq] at e; simp at e; omega
  · rintro i ⟨h1, h2, h3⟩
    refine cond_go (fun e1 => ?_) (fun e1 => ?_)
    · rw [ilt_eq, decide_eq_true_eq] at e1
      have hi : i < xs.length := by omega
      have e2 : 0 + (i : Int).toNat * 1 = i := by omega
      rw [e2]
      refine ⟨by omega, hi, by omega, by omega, cond_go (fun e3 => ?_) (fun e3 => ?_)⟩
      · rw [ieq_eq] at e3
        have : xs ≠ ys := by rintro rfl; simp at e3
        rw [hS, decide_eq_false this] at hK; exact hK
      · rw [ieq_eq] at e3
        have e3 : xs.getD i 0 = ys.getD i 0 := by simpa using e3
        have e4 : IntKind.wrap .i64 ((i : Int) + 1) = ((i + 1 : Nat) : Int) := by rw [W_in (by omega)]; rfl
        refine okSt_intro (H := HI xs ys) (i + 1 : Nat) (by simp only [W, e4]; rfl) ⟨⟨hi, h2, ?_⟩, by show xs.length - (i + 1) < xs.length - i; omega⟩
        have hj : i < ys.length := by omega
        rw [List.getD_eq_getElem?_getD, List.getElem?_eq_getElem hi, List.getD_eq_getElem?_getD, List.getElem?_eq_getElem hj] at e3
        rw [List.take_succ_eq_append_getElem hi, List.take_succ_eq_append_getElem hj, h3]
        have e5 : xs[i] = ys[i] := by simpa using e3
        rw [e5]
    · rw [ilt_eq, decide_eq_false_iff_not] at e1
      have : xs = ys := by
        rw [List.take_of_length_le (by omega), List.take_of_length_le (by omega)] at h3; exact h3
      rw [hS, decide_eq_true this] at hK; exact hK

def intsS : RSpec Ob := fun args h => match args, h with
  | [.slice 0 0 n 1, .slice 1 0 m 1], [some (.ints (some .i64) xs), some (.ints (some .i64) ys)] => some ((n = xs.length ∧ m = ys.length) ∧ n ≤ 4294967296, .bool (sameB xs ys))
  | _, _ => none
theorem ints_ok : Spec.ok E5.I Try.prog 24 intsS.spec := by
  intro args h o ho
  unfold RSpec.spec at ho
  split at ho
  case h_2 => cases ho
  rename_i p v hv
  unfold intsS at hv
  split at hv
  case h_2 => cases hv
  simp only [Option.some.injEq, Prod.mk.injEq] at hv
  obtain ⟨rfl, rfl⟩ := hv
  exact ints0_ok _ _ o ho
noncomputable def E6 := (E5).addR 24 intsS ints_ok
end Go.Sh

namespace Go.Sh
open Go Go.Proofs
variable [Con]
noncomputable def E7 := ((E6))
end Go.Sh

namespace Go.Sh
open Go Go.Proofs
variable [Con]
def kindsL (s : Int) : List Int := bif ieq s 1 || ieq s 2 then [1, 2, 3] else bif ieq s 3 || ieq s 4 then [4, 5] else []
def kindsS : Spec Ob := fun args h => match args, h with
  | [.int .i64 s], [] => some (.ret (.slice 0 0 (kindsL s).length 1) [some (.ints (some .i64) (kindsL s))])
  | _, _ => none
theorem kinds_ok : Spec.ok E7.I Try.prog 70 kindsS := by
  intro args h o ho K hK
  unfold kindsS at ho
  split at ho
  case h_2 => cases ho
  rename_i s
  simp only [Option.some.injEq] at ho; subst ho
  have hK : K (.slice 0 0 (kindsL s).length 1) [some (.ints (some .i64) (kindsL s))] := hK
  refine CallOk.trim (CallOk.castR (cs := [(.slot 0, .ints (some .i64))]) (callOk_of (E := E7) Try.checked.mixed (L := LL) (n := 10) (of_nf (q := bif ieq s 1 then K (.slice 0 0 3 1) [some (.ints (some .i64) [1, 2, 3])] else bif ieq s 2 then K (.slice 0 0 3 1) [some (.ints (some .i64) [1, 2, 3])] else bif ieq s 3 then K (.slice 0 0 2 1) [some (.ints (some .i64) [4, 5])] else bif ieq s 4 then K (.slice 0 0 2 1) [some (.ints (some .i64) [4, 5])] else K (.slice 0 0 0 1) [some (.ints (some .i64) [])]) (by kernel_rfl) ?_)))
  unfold kindsL at hK
  cases e1 : ieq s 1 <;> cases e2 : ieq s 2 <;> cases e3 : ieq s 3 <;> cases e4 : ieq s 4 <;> simp only [e1, e2, e3, e4, Bool.or_true, Bool.or_false, Bool.true_or, Bool.false_or, cond_true, cond_false] at hK ⊢ <;> exact hK
noncomputable def E8 := E7.addS 70 kindsS kinds_ok
theorem sameB_self (xs : List Int) : sameB xs xs = true := sameB_true.2 rfl
theorem ieq_self (a : Int) : ieq a a = true := by rw [ieq_eq]; simp
end Go.Sh

namespace Go.Sh
open Go Go.Proofs
variable [Con]
def hasB (xs : List Int) (n : Int) : Bool := decide (n ∈ xs)
theorem hasB_true {xs : List Int} {n : Int} : hasB xs n = true ↔ n ∈ xs := by unfold hasB; exact decide_eq_true_iff
structure okC (xs : List Int) (n : Int) (i : Nat) : Prop where
  h1 : i ≤ xs.length
  h2 : n ∉ xs.take i
def HC (xs : List Int) (n : Int) : Hint Ob := { X := Nat, st := fun i => ([.slice 0 0 xs.length 1, .int .i64 n, .top, .top, .top, .top, .top, .int .i64 (xs.length : Int), .int .i64 (i : Int)] ++ List.replicate 10 .top, [some (.ints (some .i64) xs)]), ok := okC xs n, mu := fun i => xs.length - i, keep := [0, 1, 7, 8] }
def hasS0 : Spec Ob := fun args h => match args, h with
  | [.slice 0 0 k 1, .int .i64 n], [some (.ints (some .i64) xs)] => some (.pre (k = xs.length ∧ k ≤ 4294967296) (.ret (.bool (hasB xs n)) [some (.ints (some .i64) xs)]))
  | _, _ => none
theorem has0_ok : Spec.ok E8.I Try.prog 69 hasS0 := by
  intro args h o ho K hK
  unfold hasS0 at ho
  split at ho
  case h_2 => cases ho
  rename_i k n xs
  simp only [Option.some.injEq] at ho; subst ho
  obtain ⟨⟨rfl, hp⟩, hK⟩ := hK
  have hK : K (.bool (hasB xs n)) [some (.ints (some .i64) xs)] := hK
  refine (callOk_of (E := E8) Try.checked.mixed (L := fun _ _ => some (.states (HC xs n))) (n := 10) (of_nf (q := okSt (HC xs n) (Hint.ok (HC xs n)) [.slice 0 0 (List.length xs) 1, .int .i64 n, .top, .top, .top, .top, .top, .int .i64 (↑(List.length xs) : Int), .int .i64 0, .top, .top, .top, .top, .top, .top, .top, .top, .top, .top] [some (.ints (some .i64) xs)] ∧ ∀ (x : Nat), okC xs n x → bif ilt (↑x : Int) (↑(List.length xs) : Int) then ((0 : Int) ≤ (↑x : Int) ∧ (↑x : Int) < (↑(List.length xs) : Int)) ∧ 0 + Int.toNat (↑x : Int) * (1 : Nat) < List.length xs ∧ bif ieq n (List.getD xs (0 + Int.toNat (↑x : Int) * 1) 0) then K (.bool (ile 0 (↑x : Int))) [some (.ints (some .i64) xs)] else okSt (HC xs n) (fun x' => Hint.ok (HC xs n) x' ∧ Hint.mu (HC xs n) x' < Hint.mu (HC xs n) x) [.slice 0 0 (List.length xs) 1, .int .i64 n, .top, .top, .top, .top, .top, .int .i64 (↑(List.length xs) : Int), .int .i64 (W ((↑x : Int) + 1)), .top, .top, .top, .top, .top, .top, .top, .top, .top, .top] [some (.ints (some .i64) xs)] else K (.bool false) [some (.ints (some .i64) xs)]) (by kernel_rfl) ?_))
  have hS : hasB xs n = decide (n ∈ xs) := rfl
  refine ⟨okSt_intro (H := HC xs n) (0 : Nat) rfl ⟨Nat.zero_le _, by simp⟩, ?_⟩
  rintro i ⟨h1, h2⟩
  refine cond_go (fun e1 => ?_) (fun e1 => ?_)
  · rw [ilt_eq, decide_eq_true_eq] at e1
    have hi : i < xs.length := by omega
    have e2 : 0 + (i : Int).toNat * 1 = i := by omega
    rw [e2]
    have e4 : IntKind.wrap .i64 ((i : Int) + 1) = ((i + 1 : Nat) : Int) := by rw [W_in (by omega)]; rfl
    have hg : xs.getD i 0 = xs[i] := by rw [List.getD_eq_getElem?_getD, List.getElem?_eq_getElem hi]; rfl
    refine ⟨by omega, hi, cond_go (fun e3 => ?_) (fun e3 => ?_)⟩
    · rw [ieq_eq, hg] at e3
      have e3 : n = xs[i] := by simpa using e3
      have hm : n ∈ xs := by rw [e3]; exact List.getElem_mem hi
      have h0 : ile 0 (i : Int) = true := by rw [ile_eq, decide_eq_true_eq]; omega
      rw [hS, decide_eq_true hm] at hK
      first | (rw [h0]; exact hK) | exact hK
    · rw [ieq_eq, hg] at e3
      have e3 : ¬ n = xs[i] := by simpa using e3
      refine okSt_intro (H := HC xs n) (i + 1 : Nat) (by simp only [W, e4]; rfl) ⟨⟨hi, ?_⟩, by show xs.length - (i + 1) < xs.length - i; omega⟩
      rw [List.take_succ_eq_append_getElem hi]
      intro hm
      rcases List.mem_append.1 hm with h | h
      · exact h2 h
      · exact e3 (by simpa using h)
  · rw [ilt_eq, decide_eq_false_iff_not] at e1
    rw [List.take_of_length_le (by omega)] at h2
    rw [hS, decide_eq_false h2] at hK
    exact hK
def hasS : RSpec Ob := fun args h => match args, h with
  | [.slice 0 0 k 1, .int .i64 n], [some (.ints (some .i64) xs)] => some (k = xs.length ∧ k ≤ 4294967296, .bool (hasB xs n))
  | _, _ => none
theorem has_ok : Spec.ok E8.I Try.prog 69 hasS.spec := by
  intro args h o ho
  unfold RSpec.spec at ho
  split at ho
  case h_2 => cases ho
  rename_i p v hv
  unfold hasS at hv
  split at hv
  case h_2 => cases hv
  simp only [Option.some.injEq, Prod.mk.injEq] at hv
  obtain ⟨rfl, rfl⟩ := hv
  exact has0_ok _ _ o ho
noncomputable def E9 := E8.addR 69 hasS has_ok
end Go.Sh

namespace Go.Sh
open Go Go.Proofs
variable [Con]
theorem kindsL_len (s : Int) : (kindsL s).length ≤ 3 := by
  unfold kindsL
  cases (ieq s 1 || ieq s 2) <;> cases (ieq s 3 || ieq s 4) <;> simp
def rightT (s k y : Int) : Bool := hasB (kindsL s) k && (ile 0 y && ile y (bif ieq k 5 then 0 else 999))
def rightS : RSpec Ob := fun args h => match args, h with
  | [.int .i64 s, .agg [.int .i64 k, .int .i64 y]], [] => some (True, .bool (rightT s k y))
  | _, _ => none
theorem right_ok : Spec.ok E9.I Try.prog 55 rightS.spec := by
  intro args h o ho K hK
  unfold RSpec.spec at ho
  split at ho
  case h_2 => cases ho
  rename_i p v hv
  unfold rightS at hv
  split at hv
  case h_2 => cases hv
  rename_i s k y
  simp only [Option.some.injEq, Prod.mk.injEq] at hv
  obtain ⟨rfl, rfl⟩ := hv
  simp only [Option.some.injEq] at ho; subst ho
  obtain ⟨_, hK⟩ := hK
  have hK : K (.bool (rightT s k y)) [] := hK
  refine CallOk.trim (callOk_of (E := E9) Try.checked.mixed (L := LL) (n := 10) (of_nf (q := bif ieq k 5 then (List.length (kindsL s) = List.length (kindsL s) ∧ List.length (kindsL s) ≤ (4294967296 : Nat)) ∧ bif hasB (kindsL s) k then bif ile 0 y then K (.bool (ile y 0)) [] else K (.bool false) [] else K (.bool false) [] else (List.length (kindsL s) = List.length (kindsL s) ∧ List.length (kindsL s) ≤ (4294967296 : Nat)) ∧ bif hasB (kindsL s) k then bif ile 0 y then K (.bool (ile y 999)) [] else K (.bool false) [] else K (.bool false) []) (by kernel_rfl) ?_))
  have hl := kindsL_len s
  unfold rightT at hK
  refine cond_go (fun e1 => ⟨⟨rfl, by omega⟩, cond_go (fun e2 => cond_go (fun e3 => ?_) (fun e3 => ?_)) (fun e2 => ?_)⟩) (fun e1 => ⟨⟨rfl, by omega⟩, cond_go (fun e2 => cond_go (fun e3 => ?_) (fun e3 => ?_)) (fun e2 => ?_)⟩) <;>
    (simp only [e1, e2, cond_true, cond_false, Bool.true_and, Bool.false_and] at hK <;> first | (simp only [e3, Bool.true_and, Bool.false_and] at hK; exact hK) | exact hK)
noncomputable def E10 := E9.addR 55 rightS right_ok
end Go.Sh

namespace Go.Sh
open Go Go.Proofs
variable [Con]
def cutI (x a w : Int) : Int := x / 2 ^ a.toNat % 2 ^ w.toNat
def bitI (b : Bool) : Int := bif b then 1 else 0
def fitI (n w : Int) : Bool := ile 0 n && ilt n (2 ^ w.toNat)
theorem toNat_ofInt (n : Nat) (x : Int) : ((BitVec.ofInt n x).toNat : Int) = x % 2 ^ n := by
  rw [BitVec.toNat_ofInt]
  have h : (0 : Int) < (2 ^ n : Nat) := by exact_mod_cast Nat.two_pow_pos n
  have h2 : 0 ≤ x % ((2 ^ n : Nat) : Int) := Int.emod_nonneg _ (by omega)
  rw [Int.toNat_of_nonneg h2]
  push_cast
  rfl
theorem two_pos (w : Nat) : (0 : Int) < 2 ^ w := by
  have : ((2 ^ w : Nat) : Int) = 2 ^ w := by push_cast; rfl
  have h : 0 < 2 ^ w := Nat.two_pow_pos w
  omega
theorem two_le {w n : Nat} (h : w ≤ n) : (2 : Int) ^ w ≤ 2 ^ n := by
  have a : ((2 ^ w : Nat) : Int) = 2 ^ w := by push_cast; rfl
  have b : ((2 ^ n : Nat) : Int) = 2 ^ n := by push_cast; rfl
  have h : 2 ^ w ≤ 2 ^ n := Nat.pow_le_pow_right (by omega) h
  omega
theorem two_dvd {w n : Nat} (h : w ≤ n) : (2 : Int) ^ w ∣ 2 ^ n := by
  have a : ((2 ^ w : Nat) : Int) = 2 ^ w := by push_cast; rfl
  have b : ((2 ^ n : Nat) : Int) = 2 ^ n := by push_cast; rfl
  rw [← a, ← b]
  exact Int.natCast_dvd_natCast.2 (Nat.pow_dvd_pow 2 h)
theorem and_mask {n w : Nat} (x : Int) (h : w < n) : ((BitVec.ofInt n x &&& BitVec.ofInt n (2 ^ w - 1)).toNat : Int) = x % 2 ^ w := by
  have hp := two_pos w
  have h3 : (2 : Int) ^ w ≤ 2 ^ n := two_le (by omega)
  have e1 : (BitVec.ofInt n (2 ^ w - 1)).toNat = 2 ^ w - 1 := by
    have : ((BitVec.ofInt n (2 ^ w - 1)).toNat : Int) = ((2 ^ w - 1 : Nat) : Int) := by
      rw [toNat_ofInt, Int.emod_eq_of_lt (by omega) (by omega)]
      have a : ((2 ^ w : Nat) : Int) = 2 ^ w := by push_cast; rfl
      have : 1 ≤ 2 ^ w := Nat.one_le_two_pow
      omega
    exact_mod_cast this
  rw [BitVec.toNat_and, e1, Nat.and_two_pow_sub_one_eq_mod]
  push_cast
  rw [toNat_ofInt]
  exact Int.emod_emod_of_dvd _ (two_dvd (by omega))
theorem or_shift {n a : Nat} {x y : Int} (hx : 0 ≤ x ∧ x < 2 ^ a) (hy : 0 ≤ y) (h : y * 2 ^ a + x < 2 ^ n) :
    ((BitVec.ofInt n x ||| BitVec.ofInt n (y * 2 ^ a)).toNat : Int) = x + y * 2 ^ a := by
  have hp := two_pos a
  have hya : 0 ≤ y * 2 ^ a := Int.mul_nonneg hy (by omega)
  obtain ⟨u, rfl⟩ := Int.eq_ofNat_of_zero_le hx.1
  obtain ⟨v, rfl⟩ := Int.eq_ofNat_of_zero_le hy
  have e1 : (BitVec.ofInt n (u : Int)).toNat = u := by
    have : ((BitVec.ofInt n (u : Int)).toNat : Int) = (u : Int) := by
      rw [toNat_ofInt, Int.emod_eq_of_lt (by omega) (by omega)]
    exact_mod_cast this
  have e2 : (BitVec.ofInt n ((v : Int) * 2 ^ a)).toNat = v * 2 ^ a := by
    have : ((BitVec.ofInt n ((v : Int) * 2 ^ a)).toNat : Int) = ((v * 2 ^ a : Nat) : Int) := by
      rw [toNat_ofInt, Int.emod_eq_of_lt (by omega) (by omega)]; push_cast; rfl
    exact_mod_cast this
  have hu : u < 2 ^ a := by
    have b : ((2 ^ a : Nat) : Int) = 2 ^ a := by push_cast; rfl
    omega
  rw [BitVec.toNat_or, e1, e2]
  have : u ||| v * 2 ^ a = u + v * 2 ^ a := by
    have := Nat.shiftLeft_add_eq_or_of_lt hu v
    rw [Nat.shiftLeft_eq] at this
    rw [Nat.or_comm, ← this]; omega
  rw [this]; push_cast; rfl

theorem WU_in {x : Int} (h : 0 ≤ x ∧ x ≤ 18446744073709551615) : IntKind.wrap IntKind.u64 x = x := IntWalk.u64_in x h
theorem two_lt {w n : Nat} (h : w ≤ n) {b : Int} (e : b = 2 ^ n) : (2 : Int) ^ w ≤ b := by rw [e]; exact two_le h
def cutS : RSpec Ob := fun args h => match args, h with
  | [.int .u64 x, .int .i64 a, .int .i64 w], [] => some ((0 ≤ a ∧ a ≤ 63) ∧ (0 ≤ w ∧ w ≤ 62), .int .i64 (cutI x a w))
  | _, _ => none
theorem cut_ok : Spec.ok E10.I Try.prog 65 cutS.spec := by
  intro args h o ho K hK
  unfold RSpec.spec at ho
  split at ho
  case h_2 => cases ho
  rename_i p v hv
  unfold cutS at hv
  split at hv
  case h_2 => cases hv
  rename_i x a w
  simp only [Option.some.injEq, Prod.mk.injEq] at hv
  obtain ⟨rfl, rfl⟩ := hv
  simp only [Option.some.injEq] at ho; subst ho
  obtain ⟨⟨ha, hw⟩, hK⟩ := hK
  have hK : K (.int .i64 (cutI x a w)) [] := hK
  refine CallOk.trim (callOk_of (E := E10) Try.checked.mixed (L := fun _ _ => none) (n := 10) (of_nf (q := (0 : Int) ≤ a ∧ (0 : Int) ≤ w ∧ K (.int .i64 (W (WU (↑(BitVec.toNat (BitVec.ofInt (IntKind.bits .u64) (Int.fdiv x (2 ^ min (Int.toNat a) (IntKind.bits .u64))) &&& BitVec.ofInt (IntKind.bits .u64) (WU (WU (1 * 2 ^ min (Int.toNat w) (IntKind.bits .u64)) - 1)))) : Int)))) []) (by kernel_rfl) ?_))
  refine ⟨by omega, by omega, ?_⟩
  refine cast (congrArg (fun z => K (AVal.int .i64 z) []) ?_) hK
  show cutI x a w = _
  have hb : IntKind.bits .u64 = 64 := rfl
  rw [hb]
  have h1 : min a.toNat 64 = a.toNat := by omega
  have h2 : min w.toNat 64 = w.toNat := by omega
  have h3 : (2 : Int) ^ w.toNat ≤ 4611686018427387904 := two_lt (n := 62) (by omega) (by decide)
  have h4 := two_pos w.toNat
  have h5 := two_pos a.toNat
  rw [h1, h2, Int.fdiv_eq_ediv_of_nonneg _ (by omega)]
  simp only [WU, W, Int.one_mul]
  rw [WU_in (x := 2 ^ w.toNat) (by omega), WU_in (x := 2 ^ w.toNat - 1) (by omega), and_mask _ (by omega)]
  have h6 := Int.emod_nonneg (x / 2 ^ a.toNat) (b := 2 ^ w.toNat) (by omega)
  have h7 := Int.emod_lt_of_pos (x / 2 ^ a.toNat) (b := 2 ^ w.toNat) (by omega)
  rw [WU_in (by omega), W_in (by omega)]
  rfl
def bitS : RSpec Ob := fun args h => match args, h with
  | [.bool b], [] => some (True, .int .i64 (bitI b))
  | _, _ => none
theorem bit_ok : Spec.ok E10.I Try.prog 77 bitS.spec := by
  intro args h o ho K hK
  unfold RSpec.spec at ho
  split at ho
  case h_2 => cases ho
  rename_i p v hv
  unfold bitS at hv
  split at hv
  case h_2 => cases hv
  rename_i b
  simp only [Option.some.injEq, Prod.mk.injEq] at hv
  obtain ⟨rfl, rfl⟩ := hv
  simp only [Option.some.injEq] at ho; subst ho
  obtain ⟨_, hK⟩ := hK
  have hK : K (.int .i64 (bitI b)) [] := hK
  refine CallOk.trim (callOk_of (E := E10) Try.checked.mixed (L := fun _ _ => none) (n := 10) (of_nf (q := bif b then K (.int .i64 1) [] else K (.int .i64 0) []) (by kernel_rfl) ?_))
  cases b <;> exact hK
def fitS : RSpec Ob := fun args h => match args, h with
  | [.agg [.int .i64 n, .int .i64 w]], [] => some (0 ≤ w ∧ w ≤ 62, .bool (fitI n w))
  | _, _ => none
theorem fit_ok : Spec.ok E10.I Try.prog 72 fitS.spec := by
  intro args h o ho K hK
  unfold RSpec.spec at ho
  split at ho
  case h_2 => cases ho
  rename_i p v hv
  unfold fitS at hv
  split at hv
  case h_2 => cases hv
  rename_i n w
  simp only [Option.some.injEq, Prod.mk.injEq] at hv
  obtain ⟨rfl, rfl⟩ := hv
  simp only [Option.some.injEq] at ho; subst ho
  obtain ⟨hw, hK⟩ := hK
  have hK : K (.bool (fitI n w)) [] := hK
  refine CallOk.trim (callOk_of (E := E10) Try.checked.mixed (L := fun _ _ => none) (n := 10) (of_nf (q := bif ile 0 n then (0 : Int) ≤ w ∧ K (.bool (ilt n (W (1 * 2 ^ min (Int.toNat w) (IntKind.bits .i64))))) [] else K (.bool false) []) (by kernel_rfl) ?_))
  unfold fitI at hK
  have hb : IntKind.bits .i64 = 64 := rfl
  have h2 : min w.toNat 64 = w.toNat := by omega
  have h3 : (2 : Int) ^ w.toNat ≤ 4611686018427387904 := two_lt (n := 62) (by omega) (by decide)
  have h4 := two_pos w.toNat
  refine cond_go (fun e => ⟨by omega, ?_⟩) (fun e => ?_)
  · rw [e] at hK
    rw [hb, h2, W, Int.one_mul, W_in (by omega)]
    exact hK
  · rw [e] at hK; exact hK
def newerI (v : Int) : Int := (v + 1) % 262144
noncomputable def E11 := ((((E10.addR 65 cutS cut_ok).addR 77 bitS bit_ok).addR 72 fitS fit_ok))

end Go.Sh

namespace Go.Sh
open Go Go.Proofs
variable [Con]
def getS : RSpec Ob := fun args h => match args, h with
  | [.int .u64 x], [] => some (True, .agg [.int .i64 (cutI x 0 10), .int .i64 (cutI x 10 9), .bool (ieq (cutI x 19 1) 1), .int .i64 (cutI x 20 5), .int .i64 (cutI x 25 18)])
  | _, _ => none
set_option maxRecDepth 100000 in
theorem get_ok : Spec.ok E11.I Try.prog 45 getS.spec := by
  intro args h o ho K hK
  unfold RSpec.spec at ho
  split at ho
  case h_2 => cases ho
  rename_i p v hv
  unfold getS at hv
  split at hv
  case h_2 => cases hv
  rename_i x
  simp only [Option.some.injEq, Prod.mk.injEq] at hv
  obtain ⟨rfl, rfl⟩ := hv
  simp only [Option.some.injEq] at ho; subst ho
  obtain ⟨_, hK⟩ := hK
  refine CallOk.trim (callOk_of (E := E11) Try.checked.mixed (L := LL) (n := 10) (of_nf (q := ((0 : Int) ≤ (0 : Int) ∧ (0 : Int) < (↑5 : Int)) ∧ ((0 : Int) ≤ (0 : Int) ∧ (0 : Int) < (↑1 : Int)) ∧ 1 + (1 : Nat) ≤ (4294967296 : Nat) ∧ ((0 : Int) ≤ W (0 + 1) ∧ W (0 + 1) < (↑5 : Int)) ∧ ((0 : Int) ≤ W (0 + 1) ∧ W (0 + 1) < (↑(1 + 1) : Int)) ∧ 1 + 1 + (1 : Nat) ≤ (4294967296 : Nat) ∧ ((0 : Int) ≤ W (W (0 + 1) + 1) ∧ W (W (0 + 1) + 1) < (↑5 : Int)) ∧ ((0 : Int) ≤ W (W (0 + 1) + 1) ∧ W (W (0 + 1) + 1) < (↑(1 + 1 + 1) : Int)) ∧ 1 + 1 + 1 + (1 : Nat) ≤ (4294967296 : Nat) ∧ ((0 : Int) ≤ W (W (W (0 + 1) + 1) + 1) ∧ W (W (W (0 + 1) + 1) + 1) < (↑5 : Int)) ∧ ((0 : Int) ≤ W (W (W (0 + 1) + 1) + 1) ∧ W (W (W (0 + 1) + 1) + 1) < (↑(1 + 1 + 1 + 1) : Int)) ∧ 1 + 1 + 1 + 1 + (1 : Nat) ≤ (4294967296 : Nat) ∧ ((0 : Int) ≤ W (W (W (W (0 + 1) + 1) + 1) + 1) ∧ W (W (W (W (0 + 1) + 1) + 1) + 1) < (↑5 : Int)) ∧ ((0 : Int) ≤ W (W (W (W (0 + 1) + 1) + 1) + 1) ∧ W (W (W (W (0 + 1) + 1) + 1) + 1) < (↑(1 + 1 + 1 + 1 + 1) : Int)) ∧ 1 + 1 + 1 + 1 + 1 + (1 : Nat) ≤ (4294967296 : Nat) ∧ ((0 : Int) ≤ (0 : Int) ∧ (0 : Int) < (↑(1 + 1 + 1 + 1 + 1 + 1) : Int)) ∧ (((0 : Int) ≤ (0 : Int) ∧ (0 : Int) ≤ (63 : Int)) ∧ (0 : Int) ≤ (10 : Int) ∧ (10 : Int) ≤ (62 : Int)) ∧ ((0 : Int) ≤ (1 : Int) ∧ (1 : Int) < (↑(1 + 1 + 1 + 1 + 1 + 1) : Int)) ∧ (((0 : Int) ≤ W (0 + 10) ∧ W (0 + 10) ≤ (63 : Int)) ∧ (0 : Int) ≤ (9 : Int) ∧ (9 : Int) ≤ (62 : Int)) ∧ ((0 : Int) ≤ (2 : Int) ∧ (2 : Int) < (↑(1 + 1 + 1 + 1 + 1 + 1) : Int)) ∧ (((0 : Int) ≤ W (W (0 + 10) + 9) ∧ W (W (0 + 10) + 9) ≤ (63 : Int)) ∧ (0 : Int) ≤ (1 : Int) ∧ (1 : Int) ≤ (62 : Int)) ∧ ((0 : Int) ≤ (3 : Int) ∧ (3 : Int) < (↑(1 + 1 + 1 + 1 + 1 + 1) : Int)) ∧ (((0 : Int) ≤ W (W (W (0 + 10) + 9) + 1) ∧ W (W (W (0 + 10) + 9) + 1) ≤ (63 : Int)) ∧ (0 : Int) ≤ (5 : Int) ∧ (5 : Int) ≤ (62 : Int)) ∧ ((0 : Int) ≤ (4 : Int) ∧ (4 : Int) < (↑(1 + 1 + 1 + 1 + 1 + 1) : Int)) ∧ (((0 : Int) ≤ W (W (W (W (0 + 10) + 9) + 1) + 5) ∧ W (W (W (W (0 + 10) + 9) + 1) + 5) ≤ (63 : Int)) ∧ (0 : Int) ≤ (18 : Int) ∧ (18 : Int) ≤ (62 : Int)) ∧ K (.agg [.int .i64 (cutI x 0 10), .int .i64 (cutI x (W (0 + 10)) 9), .bool (ieq (cutI x (W (W (0 + 10) + 9)) 1) 1), .int .i64 (cutI x (W (W (W (0 + 10) + 9) + 1)) 5), .int .i64 (cutI x (W (W (W (W (0 + 10) + 9) + 1) + 5)) 18)]) []) (by kernel_rfl) ?_))
  simp (disch := omega) only [W, W_in, Int.reduceAdd, Int.zero_add]
  repeat refine ⟨by omega, ?_⟩
  exact hK
theorem fitI_true {n w : Int} : fitI n w = true ↔ 0 ≤ n ∧ n < 2 ^ w.toNat := by
  unfold fitI; simp only [ile_eq, ilt_eq, Bool.and_eq_true, decide_eq_true_eq]
theorem or_sh {a : Nat} {x y p s q : Int} (e : p = 2 ^ a) (hx : 0 ≤ x ∧ x < p) (hy : 0 ≤ y) (h : y * p + x ≤ 18446744073709551615) (hs : s = x + y * p) (eq : q = p) :
    WU (((BitVec.ofInt 64 x ||| BitVec.ofInt 64 (WU (WU y * q))).toNat : Int)) = s := by
  subst eq
  have hya : 0 ≤ y * q := Int.mul_nonneg hy (by omega)
  have h1 : y ≤ y * q := by
    have := Int.mul_le_mul_of_nonneg_left (show (1 : Int) ≤ q by omega) hy
    omega
  have e1 : WU y = y := WU_in (by omega)
  rw [e1]
  have e2 : WU (y * q) = y * q := WU_in (by omega)
  rw [e2]
  subst e
  rw [or_shift hx hy (by have : (2 : Int) ^ 64 = 18446744073709551616 := by decide
                         omega)]
  rw [hs]
  exact WU_in (by omega)
theorem fit_bit (m : Bool) : fitI (bitI m) 1 = true := by cases m <;> rfl
theorem fit_not {n w : Int} (h : (!fitI n w) = true) : fitI n w = false := by simpa using h
theorem fit_yes {n w : Int} (h : (!fitI n w) = false) : fitI n w = true := by simpa using h
def putOk (k x : Int) (m : Bool) (c v : Int) : Bool := fitI k 10 && (fitI x 9 && (fitI c 5 && fitI v 18))
def putV (k x : Int) (m : Bool) (c v : Int) : Int := k + x * 1024 + bitI m * 524288 + c * 1048576 + v * 33554432
def putS : RSpec Ob := fun args h => match args, h with
  | [.agg [.int .i64 k, .int .i64 x, .bool m, .int .i64 c, .int .i64 v]], [] => some (True, .tup [.int .u64 (bif putOk k x m c v then putV k x m c v else 0), .int .i64 (bif putOk k x m c v then 0 else 2)])
  | _, _ => none
set_option maxRecDepth 100000 in
theorem put_ok : Spec.ok E11.I Try.prog 66 putS.spec := by
  intro args h o ho K hK
  unfold RSpec.spec at ho
  split at ho
  case h_2 => cases ho
  rename_i p v hv
  unfold putS at hv
  split at hv
  case h_2 => cases hv
  rename_i k x m c v
  simp only [Option.some.injEq, Prod.mk.injEq] at hv
  obtain ⟨rfl, rfl⟩ := hv
  simp only [Option.some.injEq] at ho; subst ho
  obtain ⟨_, hK⟩ := hK
  refine CallOk.trim (callOk_of (E := E11) Try.checked.mixed (L := LL) (n := 10) (of_nf (q := True ∧ ((0 : Int) ≤ (0 : Int) ∧ (0 : Int) < (↑5 : Int)) ∧ ((0 : Int) ≤ (10 : Int) ∧ (10 : Int) ≤ (62 : Int)) ∧ bif !fitI k 10 then K (.tup [.int .u64 0, .int .i64 2]) [] else (0 : Int) ≤ (0 : Int) ∧ ((0 : Int) ≤ W (0 + 1) ∧ W (0 + 1) < (↑5 : Int)) ∧ ((0 : Int) ≤ (9 : Int) ∧ (9 : Int) ≤ (62 : Int)) ∧ bif !fitI x 9 then K (.tup [.int .u64 0, .int .i64 2]) [] else (0 : Int) ≤ W (0 + 10) ∧ ((0 : Int) ≤ W (W (0 + 1) + 1) ∧ W (W (0 + 1) + 1) < (↑5 : Int)) ∧ ((0 : Int) ≤ (1 : Int) ∧ (1 : Int) ≤ (62 : Int)) ∧ bif !fitI (bitI m) 1 then K (.tup [.int .u64 0, .int .i64 2]) [] else (0 : Int) ≤ W (W (0 + 10) + 9) ∧ ((0 : Int) ≤ W (W (W (0 + 1) + 1) + 1) ∧ W (W (W (0 + 1) + 1) + 1) < (↑5 : Int)) ∧ ((0 : Int) ≤ (5 : Int) ∧ (5 : Int) ≤ (62 : Int)) ∧ bif !fitI c 5 then K (.tup [.int .u64 0, .int .i64 2]) [] else (0 : Int) ≤ W (W (W (0 + 10) + 9) + 1) ∧ ((0 : Int) ≤ W (W (W (W (0 + 1) + 1) + 1) + 1) ∧ W (W (W (W (0 + 1) + 1) + 1) + 1) < (↑5 : Int)) ∧ ((0 : Int) ≤ (18 : Int) ∧ (18 : Int) ≤ (62 : Int)) ∧ bif !fitI v 18 then K (.tup [.int .u64 0, .int .i64 2]) [] else (0 : Int) ≤ W (W (W (W (0 + 10) + 9) + 1) + 5) ∧ K (.tup [.int .u64 (WU (↑(BitVec.toNat (BitVec.ofInt (IntKind.bits .u64) (WU (↑(BitVec.toNat (BitVec.ofInt (IntKind.bits .u64) (WU (↑(BitVec.toNat (BitVec.ofInt (IntKind.bits .u64) (WU (↑(BitVec.toNat (BitVec.ofInt (IntKind.bits .u64) (WU (↑(BitVec.toNat (BitVec.ofInt (IntKind.bits .u64) 0 ||| BitVec.ofInt (IntKind.bits .u64) (WU (WU k * 2 ^ min (Int.toNat 0) (IntKind.bits .u64))))) : Int)) ||| BitVec.ofInt (IntKind.bits .u64) (WU (WU x * 2 ^ min (Int.toNat (W (0 + 10))) (IntKind.bits .u64))))) : Int)) ||| BitVec.ofInt (IntKind.bits .u64) (WU (WU (bitI m) * 2 ^ min (Int.toNat (W (W (0 + 10) + 9))) (IntKind.bits .u64))))) : Int)) ||| BitVec.ofInt (IntKind.bits .u64) (WU (WU c * 2 ^ min (Int.toNat (W (W (W (0 + 10) + 9) + 1))) (IntKind.bits .u64))))) : Int)) ||| BitVec.ofInt (IntKind.bits .u64) (WU (WU v * 2 ^ min (Int.toNat (W (W (W (W (0 + 10) + 9) + 1) + 5))) (IntKind.bits .u64))))) : Int)), .int .i64 0]) []) (by kernel_rfl) ?_))
  simp (disch := omega) only [W, W_in, Int.reduceAdd, Int.zero_add, Int.reduceToNat]
  refine ⟨trivial, ⟨by omega, by omega⟩, by omega, cond_go (fun e => ?_) (fun e1 => ⟨by omega, by omega, by omega, cond_go (fun e => ?_) (fun e2 => ⟨by omega, by omega, by omega, cond_go (fun e => ?_) (fun _ => ⟨by omega, by omega, by omega, cond_go (fun e => ?_) (fun e3 => ⟨by omega, by omega, by omega, cond_go (fun e => ?_) (fun e4 => ⟨by omega, ?_⟩)⟩)⟩)⟩)⟩)⟩
  · unfold putOk at hK
    rw [fit_not e] at hK
    exact hK
  · unfold putOk at hK
    rw [fit_yes e1, fit_not e] at hK
    exact hK
  · rw [fit_bit] at e; cases e
  · unfold putOk at hK
    rw [fit_yes e1, fit_yes e2, fit_not e] at hK
    exact hK
  · unfold putOk at hK
    rw [fit_yes e1, fit_yes e2, fit_yes e3, fit_not e] at hK
    exact hK
  · unfold putOk at hK
    rw [fit_yes e1, fit_yes e2, fit_yes e3, fit_yes e4] at hK
    have f1 := fitI_true.1 (fit_yes e1)
    have f2 := fitI_true.1 (fit_yes e2)
    have f3 := fitI_true.1 (fit_yes e3)
    have f4 := fitI_true.1 (fit_yes e4)
    have fm : 0 ≤ bitI m ∧ bitI m ≤ 1 := by cases m <;> decide
    have hb : IntKind.bits .u64 = 64 := rfl
    have p1 : (2 : Int) ^ (10 : Int).toNat = 1024 := by decide
    have p2 : (2 : Int) ^ (9 : Int).toNat = 512 := by decide
    have p3 : (2 : Int) ^ (5 : Int).toNat = 32 := by decide
    have p4 : (2 : Int) ^ (18 : Int).toNat = 262144 := by decide
    rw [p1] at f1; rw [p2] at f2; rw [p3] at f3; rw [p4] at f4
    refine cast (congrArg (fun z => K (AVal.tup [.int .u64 z, .int .i64 0]) []) ?_) hK
    show putV k x m c v = _
    unfold putV
    symm
    have q0 := or_sh (a := 0) (x := 0) (y := k) (p := 1) (q := 2 ^ min 0 64) (s := k) (by decide) (by omega) (by omega) (by omega) (by omega) (by decide)
    have q1 := or_sh (a := 10) (x := k) (y := x) (p := 1024) (q := 2 ^ min 10 64) (s := k + x * 1024) (by decide) (by omega) (by omega) (by omega) (by omega) (by decide)
    have q2 := or_sh (a := 19) (x := k + x * 1024) (y := bitI m) (p := 524288) (q := 2 ^ min 19 64) (s := k + x * 1024 + bitI m * 524288) (by decide) (by omega) (by omega) (by omega) (by omega) (by decide)
    have q3 := or_sh (a := 20) (x := k + x * 1024 + bitI m * 524288) (y := c) (p := 1048576) (q := 2 ^ min 20 64) (s := k + x * 1024 + bitI m * 524288 + c * 1048576) (by decide) (by omega) (by omega) (by omega) (by omega) (by decide)
    have q4 := or_sh (a := 25) (x := k + x * 1024 + bitI m * 524288 + c * 1048576) (y := v) (p := 33554432) (q := 2 ^ min 25 64) (s := k + x * 1024 + bitI m * 524288 + c * 1048576 + v * 33554432) (by decide) (by omega) (by omega) (by omega) (by omega) (by decide)
    rw [hb]
    rw [WU] at q0 q1 q2 q3 q4
    simp only [WU] at q0 q1 q2 q3 q4 ⊢
    rw [q0, q1, q2, q3, q4]
noncomputable def E12 := (E11.addR 45 getS get_ok).addR 66 putS put_ok
end Go.Sh

namespace Go.Sh
open Go Go.Proofs
variable [Con]
noncomputable def E13a := E12

theorem W_id {x : Int} (h : -9223372036854775808 ≤ x ∧ x ≤ 9223372036854775807) : W x = x := W_in h
noncomputable def E13 := E13a
end Go.Sh

namespace Go.Sh
open Go Go.Proofs
variable [Con]
noncomputable def E14 := E13
end Go.Sh

namespace Go.Sh
open Go Go.Proofs
variable [Con]
theorem emod_in (x : Int) {b : Int} (h : 0 < b) : 0 ≤ x % b ∧ x % b < b := ⟨Int.emod_nonneg _ (by omega), Int.emod_lt_of_pos _ h⟩
theorem cutI_in {x a w : Int} : 0 ≤ cutI x a w ∧ cutI x a w < 2 ^ w.toNat := emod_in _ (two_pos _)
def unS : RSpec Ob := fun args h => match args, h with
  | [.int .u64 x], [] => some (0 ≤ x ∧ x ≤ 18446744073709551615, .agg [.int .i64 (cutI x 0 10), .int .i64 (cutI x 10 9), .bool (ieq (cutI x 19 1) 1), .int .i64 (cutI x 20 5), .int .i64 (cutI x 25 18)])
  | _, _ => none
theorem un_ok : Spec.ok E14.I Try.prog 18 unS.spec := by
  intro args h o ho K hK
  unfold RSpec.spec at ho
  split at ho
  case h_2 => cases ho
  rename_i p v hv
  unfold unS at hv
  split at hv
  case h_2 => cases hv
  rename_i x
  simp only [Option.some.injEq, Prod.mk.injEq] at hv
  obtain ⟨rfl, rfl⟩ := hv
  simp only [Option.some.injEq] at ho; subst ho
  obtain ⟨hx, hK⟩ := hK
  refine CallOk.trim (callOk_of (E := E14) Try.checked.mixed (L := LL) (n := 10) (of_nf (q := (8796093022208 : Int) ≠ (0 : Int) ∧ (1024 : Int) ≠ (0 : Int) ∧ (1024 : Int) ≠ (0 : Int) ∧ (512 : Int) ≠ (0 : Int) ∧ (524288 : Int) ≠ (0 : Int) ∧ (2 : Int) ≠ (0 : Int) ∧ (1048576 : Int) ≠ (0 : Int) ∧ (32 : Int) ≠ (0 : Int) ∧ (33554432 : Int) ≠ (0 : Int) ∧ K (.agg [.int .i64 (Int.tmod (W (Int.tmod x 8796093022208)) 1024), .int .i64 (Int.tmod (W (Int.tdiv (W (Int.tmod x 8796093022208)) 1024)) 512), .bool (ieq (Int.tmod (W (Int.tdiv (W (Int.tmod x 8796093022208)) 524288)) 2) 1), .int .i64 (Int.tmod (W (Int.tdiv (W (Int.tmod x 8796093022208)) 1048576)) 32), .int .i64 (W (Int.tdiv (W (Int.tmod x 8796093022208)) 33554432))]) []) (by kernel_rfl) ?_))
  have e0 : Int.tmod x 8796093022208 = x % 8796093022208 := Int.tmod_eq_emod_of_nonneg hx.1
  have e1 : W (Int.tmod x 8796093022208) = x % 8796093022208 := by rw [e0]; exact W_id (by omega)
  rw [e1]
  have t0 : Int.tmod (x % 8796093022208) 1024 = cutI x 0 10 := by
    rw [Int.tmod_eq_emod_of_nonneg (by omega)]; unfold cutI; show _ = x / 1 % 1024; omega
  have t1 : W (Int.tdiv (x % 8796093022208) 1024) = x % 8796093022208 / 1024 := by rw [Int.tdiv_eq_ediv_of_nonneg (by omega)]; exact W_id (by omega)
  have t2 : W (Int.tdiv (x % 8796093022208) 524288) = x % 8796093022208 / 524288 := by rw [Int.tdiv_eq_ediv_of_nonneg (by omega)]; exact W_id (by omega)
  have t3 : W (Int.tdiv (x % 8796093022208) 1048576) = x % 8796093022208 / 1048576 := by rw [Int.tdiv_eq_ediv_of_nonneg (by omega)]; exact W_id (by omega)
  have t4 : W (Int.tdiv (x % 8796093022208) 33554432) = cutI x 25 18 := by
    rw [Int.tdiv_eq_ediv_of_nonneg (by omega), W_id (by omega)]; unfold cutI; show _ = x / 33554432 % 262144; omega
  have s1 : Int.tmod (x % 8796093022208 / 1024) 512 = cutI x 10 9 := by
    rw [Int.tmod_eq_emod_of_nonneg (by omega)]; unfold cutI; show _ = x / 1024 % 512; omega
  have s2 : Int.tmod (x % 8796093022208 / 524288) 2 = cutI x 19 1 := by
    rw [Int.tmod_eq_emod_of_nonneg (by omega)]; unfold cutI; show _ = x / 524288 % 2; omega
  have s3 : Int.tmod (x % 8796093022208 / 1048576) 32 = cutI x 20 5 := by
    rw [Int.tmod_eq_emod_of_nonneg (by omega)]; unfold cutI; show _ = x / 1048576 % 32; omega
  rw [t0, t1, t2, t3, t4, s1, s2, s3]
  repeat refine ⟨by omega, ?_⟩
  exact hK
def reS : RSpec Ob := fun args h => match args, h with
  | [.agg [.int .i64 k, .int .i64 y, .bool m, .int .i64 c, .int .i64 v]], [] => some ((0 ≤ k ∧ k < 1024) ∧ (0 ≤ y ∧ y < 512) ∧ (0 ≤ c ∧ c < 32) ∧ (0 ≤ v ∧ v < 262144), .int .u64 (putV k y m c v))
  | _, _ => none
theorem re_ok : Spec.ok E14.I Try.prog 41 reS.spec := by
  intro args h o ho K hK
  unfold RSpec.spec at ho
  split at ho
  case h_2 => cases ho
  rename_i p vv hv
  unfold reS at hv
  split at hv
  case h_2 => cases hv
  rename_i k y m c v
  simp only [Option.some.injEq, Prod.mk.injEq] at hv
  obtain ⟨rfl, rfl⟩ := hv
  simp only [Option.some.injEq] at ho; subst ho
  obtain ⟨⟨hk, hy, hc, hv⟩, hK⟩ := hK
  have hK : K (.int .u64 (putV k y m c v)) [] := hK
  refine CallOk.trim (callOk_of (E := E14) Try.checked.mixed (L := LL) (n := 10) (of_nf (q := bif m then (1024 : Int) ≠ (0 : Int) ∧ (512 : Int) ≠ (0 : Int) ∧ (32 : Int) ≠ (0 : Int) ∧ (262144 : Int) ≠ (0 : Int) ∧ K (.int .u64 (WU (W (W (W (W (Int.tmod k 1024 + W (Int.tmod y 512 * 1024)) + W (1 * 524288)) + W (Int.tmod c 32 * 1048576)) + W (Int.tmod v 262144 * 33554432))))) [] else (1024 : Int) ≠ (0 : Int) ∧ (512 : Int) ≠ (0 : Int) ∧ (32 : Int) ≠ (0 : Int) ∧ (262144 : Int) ≠ (0 : Int) ∧ K (.int .u64 (WU (W (W (W (W (Int.tmod k 1024 + W (Int.tmod y 512 * 1024)) + W (0 * 524288)) + W (Int.tmod c 32 * 1048576)) + W (Int.tmod v 262144 * 33554432))))) []) (by kernel_rfl) ?_))
  have e1 : Int.tmod k 1024 = k := by rw [Int.tmod_eq_emod_of_nonneg (by omega)]; omega
  have e2 : Int.tmod y 512 = y := by rw [Int.tmod_eq_emod_of_nonneg (by omega)]; omega
  have e3 : Int.tmod c 32 = c := by rw [Int.tmod_eq_emod_of_nonneg (by omega)]; omega
  have e4 : Int.tmod v 262144 = v := by rw [Int.tmod_eq_emod_of_nonneg (by omega)]; omega
  rw [e1, e2, e3, e4]
  unfold putV at hK
  cases m
  all_goals
    simp (disch := omega) only [W, WU, W_in, WU_in, cond_true, cond_false, bitI] at hK ⊢
    repeat refine ⟨by omega, ?_⟩
    refine cast (congrArg (fun z => K (AVal.int .u64 z) []) ?_) hK
    omega
noncomputable def E15 := (E14.addR 18 unS un_ok).addR 41 reS re_ok
end Go.Sh

namespace Go.Sh
open Go Go.Proofs
variable [Con]
structure TS where
  i : Int
  bad : Bool
  out : Bool
instance : Inhabited TS := ⟨⟨0, false, false⟩⟩
def a0 (r : List Int) : Int := List.headD r 0
def a1 (r : List Int) : Int := List.headD (List.tail r) 0
def a2 (r : List Int) : Int := List.headD (List.tail (List.tail r)) 0
def a3 (r : List Int) : Int := List.headD (List.tail (List.tail (List.tail r))) 0
def a4 (r : List Int) : Bool := !ieq (List.headD (List.tail (List.tail (List.tail (List.tail r)))) 0) 0
theorem not_tr {b : Bool} (h : (!b) = true) : b = false := by simpa using h
theorem not_fa {b : Bool} (h : (!b) = false) : b = true := by simpa using h

noncomputable def E16a := (E15)
end Go.Sh

namespace Go.Sh
open Go Go.Proofs
variable [Con]
noncomputable def E16 := ((((E16a))))
end Go.Sh

namespace Go.Sh
open Go Go.Proofs
variable [Con]
end Go.Sh

namespace Go.Sh
open Go Go.Proofs
variable [Con]
def pendB (s : Int) : Bool := ile 1 s && ile s 4
def dPutV (a b c d : Int) (m : Bool) (e f : Int) : Int := a + b * 4096 + c * 2097152 + d * 549755813888 + bitI m * 281474976710656 + e * 562949953421312 + f * 4503599627370496
def dOk (a b c d e f : Int) : Bool := fitI a 12 && (fitI b 9 && (fitI c 18 && (fitI d 9 && (fitI e 3 && fitI f 10))))
theorem cut_raw {x a w : Int} (ha : 0 ≤ a ∧ a ≤ 63) (hw : 0 ≤ w ∧ w ≤ 62) : IntKind.wrap .i64 (IntKind.wrap .u64 ((BitVec.ofInt (IntKind.bits .u64) (Int.fdiv x (2 ^ min (Int.toNat a) (IntKind.bits .u64))) &&& BitVec.ofInt (IntKind.bits .u64) (IntKind.wrap .u64 (IntKind.wrap .u64 (1 * 2 ^ min (Int.toNat w) (IntKind.bits .u64)) - 1))).toNat : Int)) = cutI x a w := by
  have hb : IntKind.bits .u64 = 64 := rfl
  rw [hb]
  have h1 : min a.toNat 64 = a.toNat := by omega
  have h2 : min w.toNat 64 = w.toNat := by omega
  have h3 : (2 : Int) ^ w.toNat ≤ 4611686018427387904 := two_lt (n := 62) (by omega) (by decide)
  have h4 := two_pos w.toNat
  have h5 := two_pos a.toNat
  rw [h1, h2, Int.fdiv_eq_ediv_of_nonneg _ (by omega)]
  simp only [WU, W, Int.one_mul]
  rw [WU_in (x := 2 ^ w.toNat) (by omega), WU_in (x := 2 ^ w.toNat - 1) (by omega), and_mask _ (by omega)]
  have h6 := Int.emod_nonneg (x / 2 ^ a.toNat) (b := 2 ^ w.toNat) (by omega)
  have h7 := Int.emod_lt_of_pos (x / 2 ^ a.toNat) (b := 2 ^ w.toNat) (by omega)
  rw [WU_in (by omega), W_in (by omega)]
  rfl
def dgetS : RSpec Ob := fun args h => match args, h with
  | [.int .u64 x], [] => some (True, .agg [.int .i64 (cutI x 0 12), .int .i64 (cutI x 12 9), .int .i64 (cutI x 21 18), .int .i64 (cutI x 39 9), .bool (ieq (cutI x 48 1) 1), .int .i64 (cutI x 49 3), .int .i64 (cutI x 52 10)])
  | _, _ => none
set_option maxRecDepth 100000 in
theorem dget_ok : Spec.ok E16.I Try.prog 36 dgetS.spec := by
  intro args h o ho K hK
  unfold RSpec.spec at ho
  split at ho
  case h_2 => cases ho
  rename_i pp vv hv
  unfold dgetS at hv
  split at hv
  case h_2 => cases hv
  rename_i x
  simp only [Option.some.injEq, Prod.mk.injEq] at hv
  obtain ⟨rfl, rfl⟩ := hv
  simp only [Option.some.injEq] at ho; subst ho
  obtain ⟨hp, hK⟩ := hK
  have hK : K (.agg [.int .i64 (cutI x 0 12), .int .i64 (cutI x 12 9), .int .i64 (cutI x 21 18), .int .i64 (cutI x 39 9), .bool (ieq (cutI x 48 1) 1), .int .i64 (cutI x 49 3), .int .i64 (cutI x 52 10)]) [] := hK
  refine CallOk.trim (callOk_of (E := E16) Try.checked.mixed (L := LL) (n := 10) (of_nf (q := ((0 : Int) ≤ (0 : Int) ∧ (0 : Int) < (↑7 : Int)) ∧ ((0 : Int) ≤ (0 : Int) ∧ (0 : Int) < (↑1 : Int)) ∧ 1 + (1 : Nat) ≤ (4294967296 : Nat) ∧ ((0 : Int) ≤ W (0 + 1) ∧ W (0 + 1) < (↑7 : Int)) ∧ ((0 : Int) ≤ W (0 + 1) ∧ W (0 + 1) < (↑(1 + 1) : Int)) ∧ 1 + 1 + (1 : Nat) ≤ (4294967296 : Nat) ∧ ((0 : Int) ≤ W (W (0 + 1) + 1) ∧ W (W (0 + 1) + 1) < (↑7 : Int)) ∧ ((0 : Int) ≤ W (W (0 + 1) + 1) ∧ W (W (0 + 1) + 1) < (↑(1 + 1 + 1) : Int)) ∧ 1 + 1 + 1 + (1 : Nat) ≤ (4294967296 : Nat) ∧ ((0 : Int) ≤ W (W (W (0 + 1) + 1) + 1) ∧ W (W (W (0 + 1) + 1) + 1) < (↑7 : Int)) ∧ ((0 : Int) ≤ W (W (W (0 + 1) + 1) + 1) ∧ W (W (W (0 + 1) + 1) + 1) < (↑(1 + 1 + 1 + 1) : Int)) ∧ 1 + 1 + 1 + 1 + (1 : Nat) ≤ (4294967296 : Nat) ∧ ((0 : Int) ≤ W (W (W (W (0 + 1) + 1) + 1) + 1) ∧ W (W (W (W (0 + 1) + 1) + 1) + 1) < (↑7 : Int)) ∧ ((0 : Int) ≤ W (W (W (W (0 + 1) + 1) + 1) + 1) ∧ W (W (W (W (0 + 1) + 1) + 1) + 1) < (↑(1 + 1 + 1 + 1 + 1) : Int)) ∧ 1 + 1 + 1 + 1 + 1 + (1 : Nat) ≤ (4294967296 : Nat) ∧ ((0 : Int) ≤ W (W (W (W (W (0 + 1) + 1) + 1) + 1) + 1) ∧ W (W (W (W (W (0 + 1) + 1) + 1) + 1) + 1) < (↑7 : Int)) ∧ ((0 : Int) ≤ W (W (W (W (W (0 + 1) + 1) + 1) + 1) + 1) ∧ W (W (W (W (W (0 + 1) + 1) + 1) + 1) + 1) < (↑(1 + 1 + 1 + 1 + 1 + 1) : Int)) ∧ 1 + 1 + 1 + 1 + 1 + 1 + (1 : Nat) ≤ (4294967296 : Nat) ∧ ((0 : Int) ≤ W (W (W (W (W (W (0 + 1) + 1) + 1) + 1) + 1) + 1) ∧ W (W (W (W (W (W (0 + 1) + 1) + 1) + 1) + 1) + 1) < (↑7 : Int)) ∧ ((0 : Int) ≤ W (W (W (W (W (W (0 + 1) + 1) + 1) + 1) + 1) + 1) ∧ W (W (W (W (W (W (0 + 1) + 1) + 1) + 1) + 1) + 1) < (↑(1 + 1 + 1 + 1 + 1 + 1 + 1) : Int)) ∧ 1 + 1 + 1 + 1 + 1 + 1 + 1 + (1 : Nat) ≤ (4294967296 : Nat) ∧ ((0 : Int) ≤ (0 : Int) ∧ (0 : Int) < (↑(1 + 1 + 1 + 1 + 1 + 1 + 1 + 1) : Int)) ∧ (0 : Int) ≤ (0 : Int) ∧ ((0 : Int) ≤ (0 : Int) ∧ (0 : Int) < (↑7 : Int)) ∧ (0 : Int) ≤ (12 : Int) ∧ ((0 : Int) ≤ (0 : Int) ∧ (0 : Int) < (↑7 : Int)) ∧ ((0 : Int) ≤ W (0 + 1) ∧ W (0 + 1) < (↑(1 + 1 + 1 + 1 + 1 + 1 + 1 + 1) : Int)) ∧ (0 : Int) ≤ W (0 + 12) ∧ ((0 : Int) ≤ W (0 + 1) ∧ W (0 + 1) < (↑7 : Int)) ∧ (0 : Int) ≤ (9 : Int) ∧ ((0 : Int) ≤ W (0 + 1) ∧ W (0 + 1) < (↑7 : Int)) ∧ ((0 : Int) ≤ W (W (0 + 1) + 1) ∧ W (W (0 + 1) + 1) < (↑(1 + 1 + 1 + 1 + 1 + 1 + 1 + 1) : Int)) ∧ (0 : Int) ≤ W (W (0 + 12) + 9) ∧ ((0 : Int) ≤ W (W (0 + 1) + 1) ∧ W (W (0 + 1) + 1) < (↑7 : Int)) ∧ (0 : Int) ≤ (18 : Int) ∧ ((0 : Int) ≤ W (W (0 + 1) + 1) ∧ W (W (0 + 1) + 1) < (↑7 : Int)) ∧ ((0 : Int) ≤ W (W (W (0 + 1) + 1) + 1) ∧ W (W (W (0 + 1) + 1) + 1) < (↑(1 + 1 + 1 + 1 + 1 + 1 + 1 + 1) : Int)) ∧ (0 : Int) ≤ W (W (W (0 + 12) + 9) + 18) ∧ ((0 : Int) ≤ W (W (W (0 + 1) + 1) + 1) ∧ W (W (W (0 + 1) + 1) + 1) < (↑7 : Int)) ∧ (0 : Int) ≤ (9 : Int) ∧ ((0 : Int) ≤ W (W (W (0 + 1) + 1) + 1) ∧ W (W (W (0 + 1) + 1) + 1) < (↑7 : Int)) ∧ ((0 : Int) ≤ W (W (W (W (0 + 1) + 1) + 1) + 1) ∧ W (W (W (W (0 + 1) + 1) + 1) + 1) < (↑(1 + 1 + 1 + 1 + 1 + 1 + 1 + 1) : Int)) ∧ (0 : Int) ≤ W (W (W (W (0 + 12) + 9) + 18) + 9) ∧ ((0 : Int) ≤ W (W (W (W (0 + 1) + 1) + 1) + 1) ∧ W (W (W (W (0 + 1) + 1) + 1) + 1) < (↑7 : Int)) ∧ (0 : Int) ≤ (1 : Int) ∧ ((0 : Int) ≤ W (W (W (W (0 + 1) + 1) + 1) + 1) ∧ W (W (W (W (0 + 1) + 1) + 1) + 1) < (↑7 : Int)) ∧ ((0 : Int) ≤ W (W (W (W (W (0 + 1) + 1) + 1) + 1) + 1) ∧ W (W (W (W (W (0 + 1) + 1) + 1) + 1) + 1) < (↑(1 + 1 + 1 + 1 + 1 + 1 + 1 + 1) : Int)) ∧ (0 : Int) ≤ W (W (W (W (W (0 + 12) + 9) + 18) + 9) + 1) ∧ ((0 : Int) ≤ W (W (W (W (W (0 + 1) + 1) + 1) + 1) + 1) ∧ W (W (W (W (W (0 + 1) + 1) + 1) + 1) + 1) < (↑7 : Int)) ∧ (0 : Int) ≤ (3 : Int) ∧ ((0 : Int) ≤ W (W (W (W (W (0 + 1) + 1) + 1) + 1) + 1) ∧ W (W (W (W (W (0 + 1) + 1) + 1) + 1) + 1) < (↑7 : Int)) ∧ ((0 : Int) ≤ W (W (W (W (W (W (0 + 1) + 1) + 1) + 1) + 1) + 1) ∧ W (W (W (W (W (W (0 + 1) + 1) + 1) + 1) + 1) + 1) < (↑(1 + 1 + 1 + 1 + 1 + 1 + 1 + 1) : Int)) ∧ (0 : Int) ≤ W (W (W (W (W (W (0 + 12) + 9) + 18) + 9) + 1) + 3) ∧ ((0 : Int) ≤ W (W (W (W (W (W (0 + 1) + 1) + 1) + 1) + 1) + 1) ∧ W (W (W (W (W (W (0 + 1) + 1) + 1) + 1) + 1) + 1) < (↑7 : Int)) ∧ (0 : Int) ≤ (10 : Int) ∧ ((0 : Int) ≤ W (W (W (W (W (W (0 + 1) + 1) + 1) + 1) + 1) + 1) ∧ W (W (W (W (W (W (0 + 1) + 1) + 1) + 1) + 1) + 1) < (↑7 : Int)) ∧ ((0 : Int) ≤ (0 : Int) ∧ (0 : Int) < (↑7 : Int)) ∧ ((0 : Int) ≤ (1 : Int) ∧ (1 : Int) < (↑7 : Int)) ∧ ((0 : Int) ≤ (2 : Int) ∧ (2 : Int) < (↑7 : Int)) ∧ ((0 : Int) ≤ (3 : Int) ∧ (3 : Int) < (↑7 : Int)) ∧ ((0 : Int) ≤ (4 : Int) ∧ (4 : Int) < (↑7 : Int)) ∧ ((0 : Int) ≤ (5 : Int) ∧ (5 : Int) < (↑7 : Int)) ∧ ((0 : Int) ≤ (6 : Int) ∧ (6 : Int) < (↑7 : Int)) ∧ K (.agg [.int .i64 (W (WU (↑(BitVec.toNat (BitVec.ofInt (IntKind.bits .u64) (Int.fdiv x (2 ^ min (Int.toNat 0) (IntKind.bits .u64))) &&& BitVec.ofInt (IntKind.bits .u64) (WU (WU (1 * 2 ^ min (Int.toNat 12) (IntKind.bits .u64)) - 1)))) : Int))), .int .i64 (W (WU (↑(BitVec.toNat (BitVec.ofInt (IntKind.bits .u64) (Int.fdiv x (2 ^ min (Int.toNat (W (0 + 12))) (IntKind.bits .u64))) &&& BitVec.ofInt (IntKind.bits .u64) (WU (WU (1 * 2 ^ min (Int.toNat 9) (IntKind.bits .u64)) - 1)))) : Int))), .int .i64 (W (WU (↑(BitVec.toNat (BitVec.ofInt (IntKind.bits .u64) (Int.fdiv x (2 ^ min (Int.toNat (W (W (0 + 12) + 9))) (IntKind.bits .u64))) &&& BitVec.ofInt (IntKind.bits .u64) (WU (WU (1 * 2 ^ min (Int.toNat 18) (IntKind.bits .u64)) - 1)))) : Int))), .int .i64 (W (WU (↑(BitVec.toNat (BitVec.ofInt (IntKind.bits .u64) (Int.fdiv x (2 ^ min (Int.toNat (W (W (W (0 + 12) + 9) + 18))) (IntKind.bits .u64))) &&& BitVec.ofInt (IntKind.bits .u64) (WU (WU (1 * 2 ^ min (Int.toNat 9) (IntKind.bits .u64)) - 1)))) : Int))), .bool (ieq (W (WU (↑(BitVec.toNat (BitVec.ofInt (IntKind.bits .u64) (Int.fdiv x (2 ^ min (Int.toNat (W (W (W (W (0 + 12) + 9) + 18) + 9))) (IntKind.bits .u64))) &&& BitVec.ofInt (IntKind.bits .u64) (WU (WU (1 * 2 ^ min (Int.toNat 1) (IntKind.bits .u64)) - 1)))) : Int))) 1), .int .i64 (W (WU (↑(BitVec.toNat (BitVec.ofInt (IntKind.bits .u64) (Int.fdiv x (2 ^ min (Int.toNat (W (W (W (W (W (0 + 12) + 9) + 18) + 9) + 1))) (IntKind.bits .u64))) &&& BitVec.ofInt (IntKind.bits .u64) (WU (WU (1 * 2 ^ min (Int.toNat 3) (IntKind.bits .u64)) - 1)))) : Int))), .int .i64 (W (WU (↑(BitVec.toNat (BitVec.ofInt (IntKind.bits .u64) (Int.fdiv x (2 ^ min (Int.toNat (W (W (W (W (W (W (0 + 12) + 9) + 18) + 9) + 1) + 3))) (IntKind.bits .u64))) &&& BitVec.ofInt (IntKind.bits .u64) (WU (WU (1 * 2 ^ min (Int.toNat 10) (IntKind.bits .u64)) - 1)))) : Int)))]) []) (by kernel_rfl) ?_))
  simp (disch := omega) only [W, WU, W_in, Int.reduceAdd, Int.zero_add]
  simp (disch := omega) only [cut_raw]
  repeat refine ⟨by omega, ?_⟩
  exact hK
theorem lt_go {a b : Int} {X Y : Prop} (h1 : a < b → X) (h2 : b ≤ a → Y) : cond (ilt a b) X Y :=
  cond_go (fun e => h1 (by rw [ilt_eq, decide_eq_true_eq] at e; exact e)) (fun e => h2 (by rw [ilt_eq, decide_eq_false_iff_not] at e; omega))
theorem le_go {a b : Int} {X Y : Prop} (h1 : a ≤ b → X) (h2 : b < a → Y) : cond (ile a b) X Y :=
  cond_go (fun e => h1 (by rw [ile_eq, decide_eq_true_eq] at e; exact e)) (fun e => h2 (by rw [ile_eq, decide_eq_false_iff_not] at e; omega))
theorem eq_go {a b : Int} {X Y : Prop} (h1 : a = b → X) (h2 : a ≠ b → Y) : cond (ieq a b) X Y :=
  cond_go (fun e => h1 (by rw [ieq_eq] at e; simpa using e)) (fun e => h2 (by rw [ieq_eq] at e; simpa using e))
theorem dOk_true {a b c d e f : Int} : dOk a b c d e f = true ↔ (0 ≤ a ∧ a < 4096) ∧ (0 ≤ b ∧ b < 512) ∧ (0 ≤ c ∧ c < 262144) ∧ (0 ≤ d ∧ d < 512) ∧ (0 ≤ e ∧ e < 8) ∧ (0 ≤ f ∧ f < 1024) := by
  unfold dOk; simp only [Bool.and_eq_true, fitI_true]; rfl
def dputS : RSpec Ob := fun args h => match args, h with
  | [.agg [.int .i64 a, .int .i64 b, .int .i64 c, .int .i64 d, .bool m, .int .i64 e, .int .i64 f]], [] => some (True, .tup [.int .u64 (bif dOk a b c d e f then dPutV a b c d m e f else 0), .int .i64 (bif dOk a b c d e f then 0 else 2)])
  | _, _ => none
set_option maxRecDepth 100000 in
theorem dput_ok : Spec.ok E16.I Try.prog 35 dputS.spec := by
  intro args h o ho K hK
  unfold RSpec.spec at ho
  split at ho
  case h_2 => cases ho
  rename_i pp vv hv
  unfold dputS at hv
  split at hv
  case h_2 => cases hv
  rename_i a b c d m e f
  simp only [Option.some.injEq, Prod.mk.injEq] at hv
  obtain ⟨rfl, rfl⟩ := hv
  simp only [Option.some.injEq] at ho; subst ho
  obtain ⟨hp, hK⟩ := hK
  have hK : K (.tup [.int .u64 (bif dOk a b c d e f then dPutV a b c d m e f else 0), .int .i64 (bif dOk a b c d e f then 0 else 2)]) [] := hK
  refine CallOk.trim (callOk_of (E := E16) Try.checked.mixed (L := LL) (n := 10) (of_nf (q := ((0 : Int) ≤ (0 : Int) ∧ (0 : Int) < (↑7 : Int)) ∧ ((0 : Int) ≤ (0 : Int) ∧ (0 : Int) < (↑1 : Int)) ∧ 1 + (1 : Nat) ≤ (4294967296 : Nat) ∧ ((0 : Int) ≤ W (0 + 1) ∧ W (0 + 1) < (↑7 : Int)) ∧ ((0 : Int) ≤ W (0 + 1) ∧ W (0 + 1) < (↑(1 + 1) : Int)) ∧ 1 + 1 + (1 : Nat) ≤ (4294967296 : Nat) ∧ ((0 : Int) ≤ W (W (0 + 1) + 1) ∧ W (W (0 + 1) + 1) < (↑7 : Int)) ∧ ((0 : Int) ≤ W (W (0 + 1) + 1) ∧ W (W (0 + 1) + 1) < (↑(1 + 1 + 1) : Int)) ∧ 1 + 1 + 1 + (1 : Nat) ≤ (4294967296 : Nat) ∧ ((0 : Int) ≤ W (W (W (0 + 1) + 1) + 1) ∧ W (W (W (0 + 1) + 1) + 1) < (↑7 : Int)) ∧ ((0 : Int) ≤ W (W (W (0 + 1) + 1) + 1) ∧ W (W (W (0 + 1) + 1) + 1) < (↑(1 + 1 + 1 + 1) : Int)) ∧ 1 + 1 + 1 + 1 + (1 : Nat) ≤ (4294967296 : Nat) ∧ ((0 : Int) ≤ W (W (W (W (0 + 1) + 1) + 1) + 1) ∧ W (W (W (W (0 + 1) + 1) + 1) + 1) < (↑7 : Int)) ∧ ((0 : Int) ≤ W (W (W (W (0 + 1) + 1) + 1) + 1) ∧ W (W (W (W (0 + 1) + 1) + 1) + 1) < (↑(1 + 1 + 1 + 1 + 1) : Int)) ∧ 1 + 1 + 1 + 1 + 1 + (1 : Nat) ≤ (4294967296 : Nat) ∧ ((0 : Int) ≤ W (W (W (W (W (0 + 1) + 1) + 1) + 1) + 1) ∧ W (W (W (W (W (0 + 1) + 1) + 1) + 1) + 1) < (↑7 : Int)) ∧ ((0 : Int) ≤ W (W (W (W (W (0 + 1) + 1) + 1) + 1) + 1) ∧ W (W (W (W (W (0 + 1) + 1) + 1) + 1) + 1) < (↑(1 + 1 + 1 + 1 + 1 + 1) : Int)) ∧ 1 + 1 + 1 + 1 + 1 + 1 + (1 : Nat) ≤ (4294967296 : Nat) ∧ ((0 : Int) ≤ W (W (W (W (W (W (0 + 1) + 1) + 1) + 1) + 1) + 1) ∧ W (W (W (W (W (W (0 + 1) + 1) + 1) + 1) + 1) + 1) < (↑7 : Int)) ∧ ((0 : Int) ≤ W (W (W (W (W (W (0 + 1) + 1) + 1) + 1) + 1) + 1) ∧ W (W (W (W (W (W (0 + 1) + 1) + 1) + 1) + 1) + 1) < (↑(1 + 1 + 1 + 1 + 1 + 1 + 1) : Int)) ∧ 1 + 1 + 1 + 1 + 1 + 1 + 1 + (1 : Nat) ≤ (4294967296 : Nat) ∧ bif m then ((0 : Int) ≤ (0 : Int) ∧ (0 : Int) < (↑7 : Int)) ∧ bif ilt a 0 then K (.tup [.int .u64 0, .int .i64 2]) [] else ((0 : Int) ≤ (0 : Int) ∧ (0 : Int) < (↑7 : Int)) ∧ (0 : Int) ≤ (12 : Int) ∧ bif ile (W (1 * 2 ^ min (Int.toNat 12) (IntKind.bits .i64))) a then K (.tup [.int .u64 0, .int .i64 2]) [] else ((0 : Int) ≤ (0 : Int) ∧ (0 : Int) < (↑(1 + 1 + 1 + 1 + 1 + 1 + 1 + 1) : Int)) ∧ (0 : Int) ≤ (0 : Int) ∧ ((0 : Int) ≤ W (0 + 1) ∧ W (0 + 1) < (↑7 : Int)) ∧ bif ilt b 0 then K (.tup [.int .u64 0, .int .i64 2]) [] else ((0 : Int) ≤ W (0 + 1) ∧ W (0 + 1) < (↑7 : Int)) ∧ (0 : Int) ≤ (9 : Int) ∧ bif ile (W (1 * 2 ^ min (Int.toNat 9) (IntKind.bits .i64))) b then K (.tup [.int .u64 0, .int .i64 2]) [] else ((0 : Int) ≤ W (0 + 1) ∧ W (0 + 1) < (↑(1 + 1 + 1 + 1 + 1 + 1 + 1 + 1) : Int)) ∧ (0 : Int) ≤ W (0 + 12) ∧ ((0 : Int) ≤ W (W (0 + 1) + 1) ∧ W (W (0 + 1) + 1) < (↑7 : Int)) ∧ bif ilt c 0 then K (.tup [.int .u64 0, .int .i64 2]) [] else ((0 : Int) ≤ W (W (0 + 1) + 1) ∧ W (W (0 + 1) + 1) < (↑7 : Int)) ∧ (0 : Int) ≤ (18 : Int) ∧ bif ile (W (1 * 2 ^ min (Int.toNat 18) (IntKind.bits .i64))) c then K (.tup [.int .u64 0, .int .i64 2]) [] else ((0 : Int) ≤ W (W (0 + 1) + 1) ∧ W (W (0 + 1) + 1) < (↑(1 + 1 + 1 + 1 + 1 + 1 + 1 + 1) : Int)) ∧ (0 : Int) ≤ W (W (0 + 12) + 9) ∧ ((0 : Int) ≤ W (W (W (0 + 1) + 1) + 1) ∧ W (W (W (0 + 1) + 1) + 1) < (↑7 : Int)) ∧ bif ilt d 0 then K (.tup [.int .u64 0, .int .i64 2]) [] else ((0 : Int) ≤ W (W (W (0 + 1) + 1) + 1) ∧ W (W (W (0 + 1) + 1) + 1) < (↑7 : Int)) ∧ (0 : Int) ≤ (9 : Int) ∧ bif ile (W (1 * 2 ^ min (Int.toNat 9) (IntKind.bits .i64))) d then K (.tup [.int .u64 0, .int .i64 2]) [] else ((0 : Int) ≤ W (W (W (0 + 1) + 1) + 1) ∧ W (W (W (0 + 1) + 1) + 1) < (↑(1 + 1 + 1 + 1 + 1 + 1 + 1 + 1) : Int)) ∧ (0 : Int) ≤ W (W (W (0 + 12) + 9) + 18) ∧ ((0 : Int) ≤ W (W (W (W (0 + 1) + 1) + 1) + 1) ∧ W (W (W (W (0 + 1) + 1) + 1) + 1) < (↑7 : Int)) ∧ ((0 : Int) ≤ W (W (W (W (0 + 1) + 1) + 1) + 1) ∧ W (W (W (W (0 + 1) + 1) + 1) + 1) < (↑7 : Int)) ∧ (0 : Int) ≤ (1 : Int) ∧ ((0 : Int) ≤ W (W (W (W (0 + 1) + 1) + 1) + 1) ∧ W (W (W (W (0 + 1) + 1) + 1) + 1) < (↑(1 + 1 + 1 + 1 + 1 + 1 + 1 + 1) : Int)) ∧ (0 : Int) ≤ W (W (W (W (0 + 12) + 9) + 18) + 9) ∧ ((0 : Int) ≤ W (W (W (W (W (0 + 1) + 1) + 1) + 1) + 1) ∧ W (W (W (W (W (0 + 1) + 1) + 1) + 1) + 1) < (↑7 : Int)) ∧ bif ilt e 0 then K (.tup [.int .u64 0, .int .i64 2]) [] else ((0 : Int) ≤ W (W (W (W (W (0 + 1) + 1) + 1) + 1) + 1) ∧ W (W (W (W (W (0 + 1) + 1) + 1) + 1) + 1) < (↑7 : Int)) ∧ (0 : Int) ≤ (3 : Int) ∧ bif ile (W (1 * 2 ^ min (Int.toNat 3) (IntKind.bits .i64))) e then K (.tup [.int .u64 0, .int .i64 2]) [] else ((0 : Int) ≤ W (W (W (W (W (0 + 1) + 1) + 1) + 1) + 1) ∧ W (W (W (W (W (0 + 1) + 1) + 1) + 1) + 1) < (↑(1 + 1 + 1 + 1 + 1 + 1 + 1 + 1) : Int)) ∧ (0 : Int) ≤ W (W (W (W (W (0 + 12) + 9) + 18) + 9) + 1) ∧ ((0 : Int) ≤ W (W (W (W (W (W (0 + 1) + 1) + 1) + 1) + 1) + 1) ∧ W (W (W (W (W (W (0 + 1) + 1) + 1) + 1) + 1) + 1) < (↑7 : Int)) ∧ bif ilt f 0 then K (.tup [.int .u64 0, .int .i64 2]) [] else ((0 : Int) ≤ W (W (W (W (W (W (0 + 1) + 1) + 1) + 1) + 1) + 1) ∧ W (W (W (W (W (W (0 + 1) + 1) + 1) + 1) + 1) + 1) < (↑7 : Int)) ∧ (0 : Int) ≤ (10 : Int) ∧ bif ile (W (1 * 2 ^ min (Int.toNat 10) (IntKind.bits .i64))) f then K (.tup [.int .u64 0, .int .i64 2]) [] else ((0 : Int) ≤ W (W (W (W (W (W (0 + 1) + 1) + 1) + 1) + 1) + 1) ∧ W (W (W (W (W (W (0 + 1) + 1) + 1) + 1) + 1) + 1) < (↑(1 + 1 + 1 + 1 + 1 + 1 + 1 + 1) : Int)) ∧ (0 : Int) ≤ W (W (W (W (W (W (0 + 12) + 9) + 18) + 9) + 1) + 3) ∧ K (.tup [.int .u64 (WU (↑(BitVec.toNat (BitVec.ofInt (IntKind.bits .u64) (WU (↑(BitVec.toNat (BitVec.ofInt (IntKind.bits .u64) (WU (↑(BitVec.toNat (BitVec.ofInt (IntKind.bits .u64) (WU (↑(BitVec.toNat (BitVec.ofInt (IntKind.bits .u64) (WU (↑(BitVec.toNat (BitVec.ofInt (IntKind.bits .u64) (WU (↑(BitVec.toNat (BitVec.ofInt (IntKind.bits .u64) (WU (↑(BitVec.toNat (BitVec.ofInt (IntKind.bits .u64) 0 ||| BitVec.ofInt (IntKind.bits .u64) (WU (WU a * 2 ^ min (Int.toNat 0) (IntKind.bits .u64))))) : Int)) ||| BitVec.ofInt (IntKind.bits .u64) (WU (WU b * 2 ^ min (Int.toNat (W (0 + 12))) (IntKind.bits .u64))))) : Int)) ||| BitVec.ofInt (IntKind.bits .u64) (WU (WU c * 2 ^ min (Int.toNat (W (W (0 + 12) + 9))) (IntKind.bits .u64))))) : Int)) ||| BitVec.ofInt (IntKind.bits .u64) (WU (WU d * 2 ^ min (Int.toNat (W (W (W (0 + 12) + 9) + 18))) (IntKind.bits .u64))))) : Int)) ||| BitVec.ofInt (IntKind.bits .u64) (WU (WU 1 * 2 ^ min (Int.toNat (W (W (W (W (0 + 12) + 9) + 18) + 9))) (IntKind.bits .u64))))) : Int)) ||| BitVec.ofInt (IntKind.bits .u64) (WU (WU e * 2 ^ min (Int.toNat (W (W (W (W (W (0 + 12) + 9) + 18) + 9) + 1))) (IntKind.bits .u64))))) : Int)) ||| BitVec.ofInt (IntKind.bits .u64) (WU (WU f * 2 ^ min (Int.toNat (W (W (W (W (W (W (0 + 12) + 9) + 18) + 9) + 1) + 3))) (IntKind.bits .u64))))) : Int)), .int .i64 0]) [] else ((0 : Int) ≤ (0 : Int) ∧ (0 : Int) < (↑7 : Int)) ∧ bif ilt a 0 then K (.tup [.int .u64 0, .int .i64 2]) [] else ((0 : Int) ≤ (0 : Int) ∧ (0 : Int) < (↑7 : Int)) ∧ (0 : Int) ≤ (12 : Int) ∧ bif ile (W (1 * 2 ^ min (Int.toNat 12) (IntKind.bits .i64))) a then K (.tup [.int .u64 0, .int .i64 2]) [] else ((0 : Int) ≤ (0 : Int) ∧ (0 : Int) < (↑(1 + 1 + 1 + 1 + 1 + 1 + 1 + 1) : Int)) ∧ (0 : Int) ≤ (0 : Int) ∧ ((0 : Int) ≤ W (0 + 1) ∧ W (0 + 1) < (↑7 : Int)) ∧ bif ilt b 0 then K (.tup [.int .u64 0, .int .i64 2]) [] else ((0 : Int) ≤ W (0 + 1) ∧ W (0 + 1) < (↑7 : Int)) ∧ (0 : Int) ≤ (9 : Int) ∧ bif ile (W (1 * 2 ^ min (Int.toNat 9) (IntKind.bits .i64))) b then K (.tup [.int .u64 0, .int .i64 2]) [] else ((0 : Int) ≤ W (0 + 1) ∧ W (0 + 1) < (↑(1 + 1 + 1 + 1 + 1 + 1 + 1 + 1) : Int)) ∧ (0 : Int) ≤ W (0 + 12) ∧ ((0 : Int) ≤ W (W (0 + 1) + 1) ∧ W (W (0 + 1) + 1) < (↑7 : Int)) ∧ bif ilt c 0 then K (.tup [.int .u64 0, .int .i64 2]) [] else ((0 : Int) ≤ W (W (0 + 1) + 1) ∧ W (W (0 + 1) + 1) < (↑7 : Int)) ∧ (0 : Int) ≤ (18 : Int) ∧ bif ile (W (1 * 2 ^ min (Int.toNat 18) (IntKind.bits .i64))) c then K (.tup [.int .u64 0, .int .i64 2]) [] else ((0 : Int) ≤ W (W (0 + 1) + 1) ∧ W (W (0 + 1) + 1) < (↑(1 + 1 + 1 + 1 + 1 + 1 + 1 + 1) : Int)) ∧ (0 : Int) ≤ W (W (0 + 12) + 9) ∧ ((0 : Int) ≤ W (W (W (0 + 1) + 1) + 1) ∧ W (W (W (0 + 1) + 1) + 1) < (↑7 : Int)) ∧ bif ilt d 0 then K (.tup [.int .u64 0, .int .i64 2]) [] else ((0 : Int) ≤ W (W (W (0 + 1) + 1) + 1) ∧ W (W (W (0 + 1) + 1) + 1) < (↑7 : Int)) ∧ (0 : Int) ≤ (9 : Int) ∧ bif ile (W (1 * 2 ^ min (Int.toNat 9) (IntKind.bits .i64))) d then K (.tup [.int .u64 0, .int .i64 2]) [] else ((0 : Int) ≤ W (W (W (0 + 1) + 1) + 1) ∧ W (W (W (0 + 1) + 1) + 1) < (↑(1 + 1 + 1 + 1 + 1 + 1 + 1 + 1) : Int)) ∧ (0 : Int) ≤ W (W (W (0 + 12) + 9) + 18) ∧ ((0 : Int) ≤ W (W (W (W (0 + 1) + 1) + 1) + 1) ∧ W (W (W (W (0 + 1) + 1) + 1) + 1) < (↑7 : Int)) ∧ ((0 : Int) ≤ W (W (W (W (0 + 1) + 1) + 1) + 1) ∧ W (W (W (W (0 + 1) + 1) + 1) + 1) < (↑7 : Int)) ∧ (0 : Int) ≤ (1 : Int) ∧ ((0 : Int) ≤ W (W (W (W (0 + 1) + 1) + 1) + 1) ∧ W (W (W (W (0 + 1) + 1) + 1) + 1) < (↑(1 + 1 + 1 + 1 + 1 + 1 + 1 + 1) : Int)) ∧ (0 : Int) ≤ W (W (W (W (0 + 12) + 9) + 18) + 9) ∧ ((0 : Int) ≤ W (W (W (W (W (0 + 1) + 1) + 1) + 1) + 1) ∧ W (W (W (W (W (0 + 1) + 1) + 1) + 1) + 1) < (↑7 : Int)) ∧ bif ilt e 0 then K (.tup [.int .u64 0, .int .i64 2]) [] else ((0 : Int) ≤ W (W (W (W (W (0 + 1) + 1) + 1) + 1) + 1) ∧ W (W (W (W (W (0 + 1) + 1) + 1) + 1) + 1) < (↑7 : Int)) ∧ (0 : Int) ≤ (3 : Int) ∧ bif ile (W (1 * 2 ^ min (Int.toNat 3) (IntKind.bits .i64))) e then K (.tup [.int .u64 0, .int .i64 2]) [] else ((0 : Int) ≤ W (W (W (W (W (0 + 1) + 1) + 1) + 1) + 1) ∧ W (W (W (W (W (0 + 1) + 1) + 1) + 1) + 1) < (↑(1 + 1 + 1 + 1 + 1 + 1 + 1 + 1) : Int)) ∧ (0 : Int) ≤ W (W (W (W (W (0 + 12) + 9) + 18) + 9) + 1) ∧ ((0 : Int) ≤ W (W (W (W (W (W (0 + 1) + 1) + 1) + 1) + 1) + 1) ∧ W (W (W (W (W (W (0 + 1) + 1) + 1) + 1) + 1) + 1) < (↑7 : Int)) ∧ bif ilt f 0 then K (.tup [.int .u64 0, .int .i64 2]) [] else ((0 : Int) ≤ W (W (W (W (W (W (0 + 1) + 1) + 1) + 1) + 1) + 1) ∧ W (W (W (W (W (W (0 + 1) + 1) + 1) + 1) + 1) + 1) < (↑7 : Int)) ∧ (0 : Int) ≤ (10 : Int) ∧ bif ile (W (1 * 2 ^ min (Int.toNat 10) (IntKind.bits .i64))) f then K (.tup [.int .u64 0, .int .i64 2]) [] else ((0 : Int) ≤ W (W (W (W (W (W (0 + 1) + 1) + 1) + 1) + 1) + 1) ∧ W (W (W (W (W (W (0 + 1) + 1) + 1) + 1) + 1) + 1) < (↑(1 + 1 + 1 + 1 + 1 + 1 + 1 + 1) : Int)) ∧ (0 : Int) ≤ W (W (W (W (W (W (0 + 12) + 9) + 18) + 9) + 1) + 3) ∧ K (.tup [.int .u64 (WU (↑(BitVec.toNat (BitVec.ofInt (IntKind.bits .u64) (WU (↑(BitVec.toNat (BitVec.ofInt (IntKind.bits .u64) (WU (↑(BitVec.toNat (BitVec.ofInt (IntKind.bits .u64) (WU (↑(BitVec.toNat (BitVec.ofInt (IntKind.bits .u64) (WU (↑(BitVec.toNat (BitVec.ofInt (IntKind.bits .u64) (WU (↑(BitVec.toNat (BitVec.ofInt (IntKind.bits .u64) (WU (↑(BitVec.toNat (BitVec.ofInt (IntKind.bits .u64) 0 ||| BitVec.ofInt (IntKind.bits .u64) (WU (WU a * 2 ^ min (Int.toNat 0) (IntKind.bits .u64))))) : Int)) ||| BitVec.ofInt (IntKind.bits .u64) (WU (WU b * 2 ^ min (Int.toNat (W (0 + 12))) (IntKind.bits .u64))))) : Int)) ||| BitVec.ofInt (IntKind.bits .u64) (WU (WU c * 2 ^ min (Int.toNat (W (W (0 + 12) + 9))) (IntKind.bits .u64))))) : Int)) ||| BitVec.ofInt (IntKind.bits .u64) (WU (WU d * 2 ^ min (Int.toNat (W (W (W (0 + 12) + 9) + 18))) (IntKind.bits .u64))))) : Int)) ||| BitVec.ofInt (IntKind.bits .u64) (WU (WU 0 * 2 ^ min (Int.toNat (W (W (W (W (0 + 12) + 9) + 18) + 9))) (IntKind.bits .u64))))) : Int)) ||| BitVec.ofInt (IntKind.bits .u64) (WU (WU e * 2 ^ min (Int.toNat (W (W (W (W (W (0 + 12) + 9) + 18) + 9) + 1))) (IntKind.bits .u64))))) : Int)) ||| BitVec.ofInt (IntKind.bits .u64) (WU (WU f * 2 ^ min (Int.toNat (W (W (W (W (W (W (0 + 12) + 9) + 18) + 9) + 1) + 3))) (IntKind.bits .u64))))) : Int)), .int .i64 0]) []) (by kernel_rfl) ?_))
  have no : dOk a b c d e f = false → K (.tup [.int .u64 0, .int .i64 2]) [] := by intro h; rw [h] at hK; exact hK
  have yes : dOk a b c d e f = true → K (.tup [.int .u64 (dPutV a b c d m e f), .int .i64 0]) [] := by intro h; rw [h] at hK; exact hK
  clear hK hp
  have w10 : W (1 * 2 ^ min (Int.toNat 10) (IntKind.bits .i64)) = 1024 := by decide
  have w12 : W (1 * 2 ^ min (Int.toNat 12) (IntKind.bits .i64)) = 4096 := by decide
  have w9 : W (1 * 2 ^ min (Int.toNat 9) (IntKind.bits .i64)) = 512 := by decide
  have w18 : W (1 * 2 ^ min (Int.toNat 18) (IntKind.bits .i64)) = 262144 := by decide
  have w3 : W (1 * 2 ^ min (Int.toNat 3) (IntKind.bits .i64)) = 8 := by decide
  rw [w10, w12, w9, w18, w3]
  simp (disch := omega) only [W, W_in, Int.reduceAdd, Int.zero_add, Int.reduceToNat]
  cases m
  · simp only [cond_true, cond_false]
    repeat' first
      | refine ⟨by omega, ?_⟩
      | refine lt_go (fun _ => ?_) (fun _ => ?_)
      | refine le_go (fun _ => ?_) (fun _ => ?_)
    all_goals first
      | exact no (by cases h : dOk a b c d e f with
                     | false => rfl
                     | true => have := dOk_true.1 h; omega)
      | skip
    have ok : dOk a b c d e f = true := dOk_true.2 (by omega)
    refine cast (congrArg (fun z => K (AVal.tup [.int .u64 z, .int .i64 0]) []) ?_) (yes ok)
    symm
    have hb : IntKind.bits .u64 = 64 := rfl
    rw [hb]
    clear yes no ok
    have q0 := or_sh (a := 0) (x := 0) (y := a) (p := 1) (q := 2 ^ min 0 64) (s := a) (by decide) (by omega) (by omega) (by omega) (by omega) (by decide)
    have q1 := or_sh (a := 12) (x := a) (y := b) (p := 4096) (q := 2 ^ min 12 64) (s := a + b * 4096) (by decide) (by omega) (by omega) (by omega) (by omega) (by decide)
    have q2 := or_sh (a := 21) (x := a + b * 4096) (y := c) (p := 2097152) (q := 2 ^ min 21 64) (s := a + b * 4096 + c * 2097152) (by decide) (by omega) (by omega) (by omega) (by omega) (by decide)
    have q3 := or_sh (a := 39) (x := a + b * 4096 + c * 2097152) (y := d) (p := 549755813888) (q := 2 ^ min 39 64) (s := a + b * 4096 + c * 2097152 + d * 549755813888) (by decide) (by omega) (by omega) (by omega) (by omega) (by decide)
    have q4 := or_sh (a := 48) (x := a + b * 4096 + c * 2097152 + d * 549755813888) (y := 0) (p := 281474976710656) (q := 2 ^ min 48 64) (s := a + b * 4096 + c * 2097152 + d * 549755813888 + 0 * 281474976710656) (by decide) (by omega) (by omega) (by omega) (by omega) (by decide)
    have q5 := or_sh (a := 49) (x := a + b * 4096 + c * 2097152 + d * 549755813888 + 0 * 281474976710656) (y := e) (p := 562949953421312) (q := 2 ^ min 49 64) (s := a + b * 4096 + c * 2097152 + d * 549755813888 + 0 * 281474976710656 + e * 562949953421312) (by decide) (by omega) (by omega) (by omega) (by omega) (by decide)
    have q6 := or_sh (a := 52) (x := a + b * 4096 + c * 2097152 + d * 549755813888 + 0 * 281474976710656 + e * 562949953421312) (y := f) (p := 4503599627370496) (q := 2 ^ min 52 64) (s := a + b * 4096 + c * 2097152 + d * 549755813888 + 0 * 281474976710656 + e * 562949953421312 + f * 4503599627370496) (by decide) (by omega) (by omega) (by omega) (by omega) (by decide)
    simp only [WU] at q0 q1 q2 q3 q4 q5 q6 ⊢
    rw [q0, q1, q2, q3, q4, q5, q6]
    unfold dPutV bitI
    rfl
  · simp only [cond_true, cond_false]
    repeat' first
      | refine ⟨by omega, ?_⟩
      | refine lt_go (fun _ => ?_) (fun _ => ?_)
      | refine le_go (fun _ => ?_) (fun _ => ?_)
    all_goals first
      | exact no (by cases h : dOk a b c d e f with
                     | false => rfl
                     | true => have := dOk_true.1 h; omega)
      | skip
    have ok : dOk a b c d e f = true := dOk_true.2 (by omega)
    refine cast (congrArg (fun z => K (AVal.tup [.int .u64 z, .int .i64 0]) []) ?_) (yes ok)
    symm
    have hb : IntKind.bits .u64 = 64 := rfl
    rw [hb]
    clear yes no ok
    have q0 := or_sh (a := 0) (x := 0) (y := a) (p := 1) (q := 2 ^ min 0 64) (s := a) (by decide) (by omega) (by omega) (by omega) (by omega) (by decide)
    have q1 := or_sh (a := 12) (x := a) (y := b) (p := 4096) (q := 2 ^ min 12 64) (s := a + b * 4096) (by decide) (by omega) (by omega) (by omega) (by omega) (by decide)
    have q2 := or_sh (a := 21) (x := a + b * 4096) (y := c) (p := 2097152) (q := 2 ^ min 21 64) (s := a + b * 4096 + c * 2097152) (by decide) (by omega) (by omega) (by omega) (by omega) (by decide)
    have q3 := or_sh (a := 39) (x := a + b * 4096 + c * 2097152) (y := d) (p := 549755813888) (q := 2 ^ min 39 64) (s := a + b * 4096 + c * 2097152 + d * 549755813888) (by decide) (by omega) (by omega) (by omega) (by omega) (by decide)
    have q4 := or_sh (a := 48) (x := a + b * 4096 + c * 2097152 + d * 549755813888) (y := 1) (p := 281474976710656) (q := 2 ^ min 48 64) (s := a + b * 4096 + c * 2097152 + d * 549755813888 + 1 * 281474976710656) (by decide) (by omega) (by omega) (by omega) (by omega) (by decide)
    have q5 := or_sh (a := 49) (x := a + b * 4096 + c * 2097152 + d * 549755813888 + 1 * 281474976710656) (y := e) (p := 562949953421312) (q := 2 ^ min 49 64) (s := a + b * 4096 + c * 2097152 + d * 549755813888 + 1 * 281474976710656 + e * 562949953421312) (by decide) (by omega) (by omega) (by omega) (by omega) (by decide)
    have q6 := or_sh (a := 52) (x := a + b * 4096 + c * 2097152 + d * 549755813888 + 1 * 281474976710656 + e * 562949953421312) (y := f) (p := 4503599627370496) (q := 2 ^ min 52 64) (s := a + b * 4096 + c * 2097152 + d * 549755813888 + 1 * 281474976710656 + e * 562949953421312 + f * 4503599627370496) (by decide) (by omega) (by omega) (by omega) (by omega) (by decide)
    simp only [WU] at q0 q1 q2 q3 q4 q5 q6 ⊢
    rw [q0, q1, q2, q3, q4, q5, q6]
    unfold dPutV bitI
    rfl
noncomputable def E20 := (E16.addR 36 dgetS dget_ok).addR 35 dputS dput_ok
end Go.Sh

namespace Go.Sh
open Go Go.Proofs
variable [Con]
def attI (a : Int) : Int := (a + 1) % 4096
def next1S : RSpec Ob := fun args h => match args, h with
  | [.agg [.int .i64 a, .int .i64 b, .int .i64 c, .int .i64 d, .bool m, .int .i64 e, .int .i64 f]], [] => some (0 ≤ a ∧ a ≤ 1000000, .agg [.int .i64 (attI a), .int .i64 0, .int .i64 0, .int .i64 0, .bool false, .int .i64 1, .int .i64 0])
  | _, _ => none
theorem next1_ok : Spec.ok E20.I Try.prog 37 next1S.spec := by
  intro args h o ho K hK
  unfold RSpec.spec at ho
  split at ho
  case h_2 => cases ho
  rename_i pp vv hv
  unfold next1S at hv
  split at hv
  case h_2 => cases hv
  rename_i a b c d m e f
  simp only [Option.some.injEq, Prod.mk.injEq] at hv
  obtain ⟨rfl, rfl⟩ := hv
  simp only [Option.some.injEq] at ho; subst ho
  obtain ⟨hp, hK⟩ := hK
  have hK : K (.agg [.int .i64 (attI a), .int .i64 0, .int .i64 0, .int .i64 0, .bool false, .int .i64 1, .int .i64 0]) [] := hK
  refine CallOk.trim (callOk_of (E := E20) Try.checked.mixed (L := LL) (n := 10) (of_nf (q := K (.agg [.int .i64 (W (↑(BitVec.toNat (BitVec.ofInt (IntKind.bits .i64) (W (a + 1)) &&& BitVec.ofInt (IntKind.bits .i64) 4095)) : Int)), .int .i64 0, .int .i64 0, .int .i64 0, .bool false, .int .i64 1, .int .i64 0]) []) (by kernel_rfl) ?_))
  refine cast (congrArg (fun z => K (.agg [.int .i64 z, .int .i64 0, .int .i64 0, .int .i64 0, .bool false, .int .i64 1, .int .i64 0]) []) ?_) hK
  show attI a = _
  have hb : IntKind.bits .i64 = 64 := rfl
  simp only [W]
  rw [hb, W_in (x := a + 1) (by omega)]
  have := and_mask (n := 64) (w := 12) (a + 1) (by omega)
  have e : (2 : Int) ^ 12 - 1 = 4095 := by decide
  rw [e] at this
  rw [this]
  have e2 : (2 : Int) ^ 12 = 4096 := by decide
  rw [e2, W_in (by omega)]
  rfl
def pendDS : RSpec Ob := fun args h => match args, h with
  | [.agg [.int .i64 a, .int .i64 b, .int .i64 c, .int .i64 d, .bool m, .int .i64 e, .int .i64 f]], [] => some (True, .bool (pendB e))
  | _, _ => none
theorem pendD_ok : Spec.ok E8.I Try.prog 39 pendDS.spec := by
  intro args h o ho K hK
  unfold RSpec.spec at ho
  split at ho
  case h_2 => cases ho
  rename_i pp vv hv
  unfold pendDS at hv
  split at hv
  case h_2 => cases hv
  rename_i a b c d m e f
  simp only [Option.some.injEq, Prod.mk.injEq] at hv
  obtain ⟨rfl, rfl⟩ := hv
  simp only [Option.some.injEq] at ho; subst ho
  obtain ⟨hp, hK⟩ := hK
  have hK : K (.bool (pendB e)) [] := hK
  refine CallOk.trim (callOk_of (E := E8) Try.checked.mixed (L := LL) (n := 10) (of_nf (q := ((0 : Int) ≤ (0 : Int) ∧ (0 : Int) < (↑4 : Int)) ∧ bif ieq e 1 then K (.bool true) [] else ((0 : Int) ≤ W (0 + 1) ∧ W (0 + 1) < (↑4 : Int)) ∧ bif ieq e 2 then K (.bool true) [] else ((0 : Int) ≤ W (W (0 + 1) + 1) ∧ W (W (0 + 1) + 1) < (↑4 : Int)) ∧ bif ieq e 3 then K (.bool true) [] else ((0 : Int) ≤ W (W (W (0 + 1) + 1) + 1) ∧ W (W (W (0 + 1) + 1) + 1) < (↑4 : Int)) ∧ bif ieq e 4 then K (.bool true) [] else K (.bool false) []) (by kernel_rfl) ?_))
  have hb : ∀ v : Bool, pendB e = v → K (.bool v) [] := by intro v h; rw [← h]; exact hK
  have yes : 1 ≤ e ∧ e ≤ 4 → pendB e = true := by intro h; unfold pendB; rw [ile_eq, ile_eq, decide_eq_true h.1, decide_eq_true h.2]; rfl
  have no : ¬ (1 ≤ e ∧ e ≤ 4) → pendB e = false := by
    intro h; unfold pendB; rw [ile_eq, ile_eq]
    by_cases h1 : 1 ≤ e
    · rw [decide_eq_true h1, decide_eq_false (by omega)]; rfl
    · rw [decide_eq_false h1]; rfl
  simp (disch := omega) only [W, W_in, Int.reduceAdd, Int.zero_add]
  repeat' first
    | refine ⟨by omega, ?_⟩
    | refine eq_go (fun _ => ?_) (fun _ => ?_)
  all_goals first
    | exact hb _ (yes (by omega))
    | exact hb _ (no (by omega))
def endedS : RSpec Ob := fun args h => match args, h with
  | [.agg [.int .i64 a, .int .i64 b, .int .i64 c, .int .i64 d, .bool m, .int .i64 e, .int .i64 f], .agg [.int .i64 g, .bool o, .int .i64 v]], [] => some (True, .agg [.int .i64 a, .int .i64 0, .int .i64 0, .int .i64 (bif ieq g 4 then 1 else 0), .bool o, .int .i64 5, .int .i64 v])
  | _, _ => none
theorem ended_ok : Spec.ok E20.I Try.prog 53 endedS.spec := by
  intro args h o ho K hK
  unfold RSpec.spec at ho
  split at ho
  case h_2 => cases ho
  rename_i pp vv hv
  unfold endedS at hv
  split at hv
  case h_2 => cases hv
  rename_i a b c d m e f g o v
  simp only [Option.some.injEq, Prod.mk.injEq] at hv
  obtain ⟨rfl, rfl⟩ := hv
  simp only [Option.some.injEq] at ho; subst ho
  obtain ⟨hp, hK⟩ := hK
  have hK : K (.agg [.int .i64 a, .int .i64 0, .int .i64 0, .int .i64 (bif ieq g 4 then 1 else 0), .bool o, .int .i64 5, .int .i64 v]) [] := hK
  refine CallOk.trim (callOk_of (E := E20) Try.checked.mixed (L := LL) (n := 10) (of_nf (q := bif ieq g 4 then K (.agg [.int .i64 a, .int .i64 0, .int .i64 0, .int .i64 1, .bool o, .int .i64 5, .int .i64 v]) [] else K (.agg [.int .i64 a, .int .i64 0, .int .i64 0, .int .i64 0, .bool o, .int .i64 5, .int .i64 v]) []) (by kernel_rfl) ?_))
  generalize ieq g 4 = b1 at hK ⊢
  cases b1 <;> exact hK
def undS : RSpec Ob := fun args h => match args, h with
  | [.int .u64 x], [] => some (0 ≤ x ∧ x ≤ 18446744073709551615, .agg [.int .i64 (cutI x 0 12), .int .i64 (cutI x 12 9), .int .i64 (cutI x 21 18), .int .i64 (cutI x 39 9), .bool (ieq (cutI x 48 1) 1), .int .i64 (cutI x 49 3), .int .i64 (cutI x 52 10)])
  | _, _ => none
theorem und_ok : Spec.ok E20.I Try.prog 12 undS.spec := by
  intro args h o ho K hK
  unfold RSpec.spec at ho
  split at ho
  case h_2 => cases ho
  rename_i pp vv hv
  unfold undS at hv
  split at hv
  case h_2 => cases hv
  rename_i x
  simp only [Option.some.injEq, Prod.mk.injEq] at hv
  obtain ⟨rfl, rfl⟩ := hv
  simp only [Option.some.injEq] at ho; subst ho
  obtain ⟨hp, hK⟩ := hK
  have hK : K (.agg [.int .i64 (cutI x 0 12), .int .i64 (cutI x 12 9), .int .i64 (cutI x 21 18), .int .i64 (cutI x 39 9), .bool (ieq (cutI x 48 1) 1), .int .i64 (cutI x 49 3), .int .i64 (cutI x 52 10)]) [] := hK
  refine CallOk.trim (callOk_of (E := E20) Try.checked.mixed (L := LL) (n := 10) (of_nf (q := (4611686018427387904 : Int) ≠ (0 : Int) ∧ (4096 : Int) ≠ (0 : Int) ∧ (4096 : Int) ≠ (0 : Int) ∧ (512 : Int) ≠ (0 : Int) ∧ (2097152 : Int) ≠ (0 : Int) ∧ (262144 : Int) ≠ (0 : Int) ∧ (549755813888 : Int) ≠ (0 : Int) ∧ (512 : Int) ≠ (0 : Int) ∧ (281474976710656 : Int) ≠ (0 : Int) ∧ (2 : Int) ≠ (0 : Int) ∧ (562949953421312 : Int) ≠ (0 : Int) ∧ (8 : Int) ≠ (0 : Int) ∧ (4503599627370496 : Int) ≠ (0 : Int) ∧ (1024 : Int) ≠ (0 : Int) ∧ K (.agg [.int .i64 (Int.tmod (W (Int.tmod x 4611686018427387904)) 4096), .int .i64 (Int.tmod (W (Int.tdiv (W (Int.tmod x 4611686018427387904)) 4096)) 512), .int .i64 (Int.tmod (W (Int.tdiv (W (Int.tmod x 4611686018427387904)) 2097152)) 262144), .int .i64 (Int.tmod (W (Int.tdiv (W (Int.tmod x 4611686018427387904)) 549755813888)) 512), .bool (ieq (Int.tmod (W (Int.tdiv (W (Int.tmod x 4611686018427387904)) 281474976710656)) 2) 1), .int .i64 (Int.tmod (W (Int.tdiv (W (Int.tmod x 4611686018427387904)) 562949953421312)) 8), .int .i64 (Int.tmod (W (Int.tdiv (W (Int.tmod x 4611686018427387904)) 4503599627370496)) 1024)]) []) (by kernel_rfl) ?_))
  have e0 : Int.tmod x 4611686018427387904 = x % 4611686018427387904 := Int.tmod_eq_emod_of_nonneg hp.1
  have e1 : W (Int.tmod x 4611686018427387904) = x % 4611686018427387904 := by rw [e0]; exact W_id (by omega)
  rw [e1]
  have t0 : Int.tmod (x % 4611686018427387904) 4096 = cutI x 0 12 := by
    rw [Int.tmod_eq_emod_of_nonneg (by omega)]; unfold cutI; show _ = x / 1 % 4096; omega
  have t1 : W (Int.tdiv (x % 4611686018427387904) 4096) = x % 4611686018427387904 / 4096 := by rw [Int.tdiv_eq_ediv_of_nonneg (by omega)]; exact W_id (by omega)
  have s1 : Int.tmod (x % 4611686018427387904 / 4096) 512 = cutI x 12 9 := by
    rw [Int.tmod_eq_emod_of_nonneg (by omega)]; unfold cutI; show _ = x / 4096 % 512; omega
  have t2 : W (Int.tdiv (x % 4611686018427387904) 2097152) = x % 4611686018427387904 / 2097152 := by rw [Int.tdiv_eq_ediv_of_nonneg (by omega)]; exact W_id (by omega)
  have s2 : Int.tmod (x % 4611686018427387904 / 2097152) 262144 = cutI x 21 18 := by
    rw [Int.tmod_eq_emod_of_nonneg (by omega)]; unfold cutI; show _ = x / 2097152 % 262144; omega
  have t3 : W (Int.tdiv (x % 4611686018427387904) 549755813888) = x % 4611686018427387904 / 549755813888 := by rw [Int.tdiv_eq_ediv_of_nonneg (by omega)]; exact W_id (by omega)
  have s3 : Int.tmod (x % 4611686018427387904 / 549755813888) 512 = cutI x 39 9 := by
    rw [Int.tmod_eq_emod_of_nonneg (by omega)]; unfold cutI; show _ = x / 549755813888 % 512; omega
  have t4 : W (Int.tdiv (x % 4611686018427387904) 281474976710656) = x % 4611686018427387904 / 281474976710656 := by rw [Int.tdiv_eq_ediv_of_nonneg (by omega)]; exact W_id (by omega)
  have s4 : Int.tmod (x % 4611686018427387904 / 281474976710656) 2 = cutI x 48 1 := by
    rw [Int.tmod_eq_emod_of_nonneg (by omega)]; unfold cutI; show _ = x / 281474976710656 % 2; omega
  have t5 : W (Int.tdiv (x % 4611686018427387904) 562949953421312) = x % 4611686018427387904 / 562949953421312 := by rw [Int.tdiv_eq_ediv_of_nonneg (by omega)]; exact W_id (by omega)
  have s5 : Int.tmod (x % 4611686018427387904 / 562949953421312) 8 = cutI x 49 3 := by
    rw [Int.tmod_eq_emod_of_nonneg (by omega)]; unfold cutI; show _ = x / 562949953421312 % 8; omega
  have t6 : W (Int.tdiv (x % 4611686018427387904) 4503599627370496) = x % 4611686018427387904 / 4503599627370496 := by rw [Int.tdiv_eq_ediv_of_nonneg (by omega)]; exact W_id (by omega)
  have s6 : Int.tmod (x % 4611686018427387904 / 4503599627370496) 1024 = cutI x 52 10 := by
    rw [Int.tmod_eq_emod_of_nonneg (by omega)]; unfold cutI; show _ = x / 4503599627370496 % 1024; omega
  rw [t0, t1, t2, t3, t4, t5, t6, s1, s2, s3, s4, s5, s6]
  repeat refine ⟨by omega, ?_⟩
  exact hK
def redS : RSpec Ob := fun args h => match args, h with
  | [.agg [.int .i64 a, .int .i64 b, .int .i64 c, .int .i64 d, .bool m, .int .i64 e, .int .i64 f]], [] => some ((0 ≤ a ∧ a ≤ 1000000) ∧ (0 ≤ b ∧ b ≤ 1000000) ∧ (0 ≤ c ∧ c ≤ 1000000) ∧ (0 ≤ d ∧ d ≤ 1000000) ∧ (0 ≤ e ∧ e ≤ 1000000) ∧ (0 ≤ f ∧ f ≤ 1000000), .int .u64 (dPutV (a % 4096) (b % 512) (c % 262144) (d % 512) m (e % 8) (f % 1024)))
  | _, _ => none
theorem red_ok : Spec.ok E20.I Try.prog 42 redS.spec := by
  intro args h o ho K hK
  unfold RSpec.spec at ho
  split at ho
  case h_2 => cases ho
  rename_i pp vv hv
  unfold redS at hv
  split at hv
  case h_2 => cases hv
  rename_i a b c d m e f
  simp only [Option.some.injEq, Prod.mk.injEq] at hv
  obtain ⟨rfl, rfl⟩ := hv
  simp only [Option.some.injEq] at ho; subst ho
  obtain ⟨hp, hK⟩ := hK
  have hK : K (.int .u64 (dPutV (a % 4096) (b % 512) (c % 262144) (d % 512) m (e % 8) (f % 1024))) [] := hK
  refine CallOk.trim (callOk_of (E := E20) Try.checked.mixed (L := LL) (n := 10) (of_nf (q := bif m then (1024 : Int) ≠ (0 : Int) ∧ (8 : Int) ≠ (0 : Int) ∧ (512 : Int) ≠ (0 : Int) ∧ (262144 : Int) ≠ (0 : Int) ∧ (512 : Int) ≠ (0 : Int) ∧ (4096 : Int) ≠ (0 : Int) ∧ K (.int .u64 (WU (W (W (W (W (W (W (W (W (W (W (W (W (Int.tmod f 1024 * 8) + Int.tmod e 8) * 2) + 1) * 512) + Int.tmod d 512) * 262144) + Int.tmod c 262144) * 512) + Int.tmod b 512) * 4096) + Int.tmod a 4096)))) [] else (1024 : Int) ≠ (0 : Int) ∧ (8 : Int) ≠ (0 : Int) ∧ (512 : Int) ≠ (0 : Int) ∧ (262144 : Int) ≠ (0 : Int) ∧ (512 : Int) ≠ (0 : Int) ∧ (4096 : Int) ≠ (0 : Int) ∧ K (.int .u64 (WU (W (W (W (W (W (W (W (W (W (W (W (W (Int.tmod f 1024 * 8) + Int.tmod e 8) * 2) + 0) * 512) + Int.tmod d 512) * 262144) + Int.tmod c 262144) * 512) + Int.tmod b 512) * 4096) + Int.tmod a 4096)))) []) (by kernel_rfl) ?_))
  obtain ⟨p1, p2, p3, p4, p5, p6⟩ := hp
  have m1 : Int.tmod a 4096 = a % 4096 := Int.tmod_eq_emod_of_nonneg p1.1
  have m2 : Int.tmod b 512 = b % 512 := Int.tmod_eq_emod_of_nonneg p2.1
  have m3 : Int.tmod c 262144 = c % 262144 := Int.tmod_eq_emod_of_nonneg p3.1
  have m4 : Int.tmod d 512 = d % 512 := Int.tmod_eq_emod_of_nonneg p4.1
  have m5 : Int.tmod e 8 = e % 8 := Int.tmod_eq_emod_of_nonneg p5.1
  have m6 : Int.tmod f 1024 = f % 1024 := Int.tmod_eq_emod_of_nonneg p6.1
  rw [m1, m2, m3, m4, m5, m6]
  unfold dPutV bitI at hK
  cases m
  all_goals
    simp only [cond_true, cond_false] at hK ⊢
    simp (disch := omega) only [W, WU, W_in, WU_in]
    repeat refine ⟨by omega, ?_⟩
    refine cast (congrArg (fun z => K (AVal.int .u64 z) []) ?_) hK
    omega
noncomputable def E21a := (((((E20.addR 37 next1S next1_ok).addR 39 pendDS pendD_ok)).addR 53 endedS ended_ok).addR 12 undS und_ok).addR 42 redS red_ok
noncomputable def E21 := (E21a)
end Go.Sh

namespace Go.Sh
open Go Go.Proofs
variable [Con]
theorem rightT_iff {s k y : Int} : rightT s k y = true ↔ (((s = 1 ∨ s = 2) ∧ 1 ≤ k ∧ k ≤ 3) ∨ ((s = 3 ∨ s = 4) ∧ (k = 4 ∨ k = 5))) ∧ 0 ≤ y ∧ y ≤ 999 ∧ (k = 5 → y ≤ 0) := by
  have hm : (bif ieq k 5 then (0 : Int) else 999) = if k = 5 then 0 else 999 := by
    rw [ieq_eq]; by_cases h : k = 5
    · simp [h]
    · have h' : (k == 5) = false := by simpa using h
      rw [h', if_neg h]; rfl
  have hk : k ∈ kindsL s ↔ (((s = 1 ∨ s = 2) ∧ 1 ≤ k ∧ k ≤ 3) ∨ ((s = 3 ∨ s = 4) ∧ (k = 4 ∨ k = 5))) := by
    unfold kindsL
    rw [ieq_eq, ieq_eq, ieq_eq, ieq_eq]
    by_cases h1 : s = 1
    · subst h1; simp; omega
    by_cases h2 : s = 2
    · subst h2; simp; omega
    by_cases h3 : s = 3
    · subst h3; simp
    by_cases h4 : s = 4
    · subst h4; simp
    have g1 : (s == 1) = false := by simpa using h1
    have g2 : (s == 2) = false := by simpa using h2
    have g3 : (s == 3) = false := by simpa using h3
    have g4 : (s == 4) = false := by simpa using h4
    rw [g1, g2, g3, g4]
    simp [h1, h2, h3, h4]
  unfold rightT
  rw [Bool.and_eq_true, Bool.and_eq_true, hasB_true, hk, ile_eq, ile_eq, decide_eq_true_eq, decide_eq_true_eq, hm]
  by_cases h5 : k = 5
  · simp [h5]; omega
  · simp [h5]
def tskV (s k y : Int) : Int := s + 8 * k + 64 * y
def tputS : RSpec Ob := fun args h => match args, h with
  | [.agg [.int .i64 s, .int .i64 k, .int .i64 y]], [] => some (True, .tup [.int .u64 (bif rightT s k y then tskV s k y else 0), .int .i64 (bif rightT s k y then 0 else 1)])
  | _, _ => none
theorem tput_ok : Spec.ok E21.I Try.prog 30 tputS.spec := by
  intro args h o ho K hK
  unfold RSpec.spec at ho
  split at ho
  case h_2 => cases ho
  rename_i pp vv hv
  unfold tputS at hv
  split at hv
  case h_2 => cases hv
  rename_i s k y
  simp only [Option.some.injEq, Prod.mk.injEq] at hv
  obtain ⟨rfl, rfl⟩ := hv
  simp only [Option.some.injEq] at ho; subst ho
  obtain ⟨hp, hK⟩ := hK
  have hK : K (.tup [.int .u64 (bif rightT s k y then tskV s k y else 0), .int .i64 (bif rightT s k y then 0 else 1)]) [] := hK
  refine CallOk.trim (callOk_of (E := E21) Try.checked.mixed (L := LL) (n := 10) (of_nf (q := True ∧ bif !rightT s k y then K (.tup [.int .u64 0, .int .i64 1]) [] else (0 : Int) ≤ (3 : Int) ∧ (0 : Int) ≤ (6 : Int) ∧ K (.tup [.int .u64 (WU (W (↑(BitVec.toNat (BitVec.ofInt (IntKind.bits .i64) (W (↑(BitVec.toNat (BitVec.ofInt (IntKind.bits .i64) s ||| BitVec.ofInt (IntKind.bits .i64) (W (k * 2 ^ min (Int.toNat 3) (IntKind.bits .i64))))) : Int)) ||| BitVec.ofInt (IntKind.bits .i64) (W (y * 2 ^ min (Int.toNat 6) (IntKind.bits .i64))))) : Int))), .int .i64 0]) []) (by kernel_rfl) ?_))
  refine ⟨trivial, cond_go (fun e => ?_) (fun e => ⟨by omega, by omega, ?_⟩)⟩
  · rw [not_tr e] at hK; exact hK
  · have e := not_fa e
    rw [e] at hK
    have h := rightT_iff.1 e
    refine cast (congrArg (fun z => K (.tup [.int .u64 z, .int .i64 0]) []) ?_) hK
    show tskV s k y = _
    have hb : IntKind.bits .i64 = 64 := rfl
    rw [hb]
    have p3 : (2 : Int) ^ min (Int.toNat 3) 64 = 2 ^ 3 := by decide
    have p6 : (2 : Int) ^ min (Int.toNat 6) 64 = 2 ^ 6 := by decide
    have v3 : (2 : Int) ^ 3 = 8 := by decide
    have v6 : (2 : Int) ^ 6 = 64 := by decide
    have v64 : (2 : Int) ^ 64 = 18446744073709551616 := by decide
    rw [p3, p6]
    have q1 := or_shift (n := 64) (a := 3) (x := s) (y := k) (by omega) (by omega) (by omega)
    have w1 : W (k * 2 ^ 3) = k * 2 ^ 3 := W_id (by omega)
    rw [w1, q1]
    have w2 : W (s + k * 2 ^ 3) = s + k * 2 ^ 3 := W_id (by omega)
    have w3 : W (y * 2 ^ 6) = y * 2 ^ 6 := W_id (by omega)
    have q2 := or_shift (n := 64) (a := 6) (x := s + k * 2 ^ 3) (y := y) (by omega) (by omega) (by omega)
    rw [w2, w3, q2]
    have w4 : W (s + k * 2 ^ 3 + y * 2 ^ 6) = s + k * 2 ^ 3 + y * 2 ^ 6 := W_id (by omega)
    have w5 : WU (s + k * 2 ^ 3 + y * 2 ^ 6) = s + k * 2 ^ 3 + y * 2 ^ 6 := WU_in (by omega)
    rw [w4, w5, v3, v6]
    unfold tskV
    omega
def mayS : RSpec Ob := fun args h => match args, h with
  | [.int .i64 s, .agg [.int .i64 k, .int .i64 y]], [] => some (True, .bool (rightT s k y))
  | _, _ => none
theorem may_ok : Spec.ok E21.I Try.prog 7 mayS.spec := by
  intro args h o ho K hK
  unfold RSpec.spec at ho
  split at ho
  case h_2 => cases ho
  rename_i pp vv hv
  unfold mayS at hv
  split at hv
  case h_2 => cases hv
  rename_i s k y
  simp only [Option.some.injEq, Prod.mk.injEq] at hv
  obtain ⟨rfl, rfl⟩ := hv
  simp only [Option.some.injEq] at ho; subst ho
  obtain ⟨hp, hK⟩ := hK
  have hK : K (.bool (rightT s k y)) [] := hK
  refine CallOk.trim (callOk_of (E := E21) Try.checked.mixed (L := LL) (n := 10) (of_nf (q := bif ilt y 0 then K (.bool false) [] else bif ilt 999 y then K (.bool false) [] else bif ieq s 1 then bif ile 1 k then K (.bool (ile k 3)) [] else K (.bool false) [] else bif ieq s 2 then bif ile 1 k then K (.bool (ile k 3)) [] else K (.bool false) [] else bif ieq s 3 then bif ieq k 4 then K (.bool true) [] else bif ieq k 5 then K (.bool (ieq y 0)) [] else K (.bool false) [] else bif ieq s 4 then bif ieq k 4 then K (.bool true) [] else bif ieq k 5 then K (.bool (ieq y 0)) [] else K (.bool false) [] else K (.bool false) []) (by kernel_rfl) ?_))
  have hb : ∀ v : Bool, rightT s k y = v → K (.bool v) [] := by intro v h; rw [← h]; exact hK
  have yes := (rightT_iff (s := s) (k := k) (y := y)).2
  have no : ¬ ((((s = 1 ∨ s = 2) ∧ 1 ≤ k ∧ k ≤ 3) ∨ ((s = 3 ∨ s = 4) ∧ (k = 4 ∨ k = 5))) ∧ 0 ≤ y ∧ y ≤ 999 ∧ (k = 5 → y ≤ 0)) → rightT s k y = false := by
    intro h
    cases e : rightT s k y with
    | false => rfl
    | true => exact (h (rightT_iff.1 e)).elim
  have hle : ∀ a b : Int, K (.bool (ile a b)) [] ∨ ¬ K (.bool (ile a b)) [] := fun _ _ => Classical.em _
  repeat' first
    | refine lt_go (fun _ => ?_) (fun _ => ?_)
    | refine le_go (fun _ => ?_) (fun _ => ?_)
    | refine eq_go (fun _ => ?_) (fun _ => ?_)
  all_goals first
    | exact hb _ (no (by omega))
    | exact hb _ (yes (by omega))
    | (rw [ile_eq]; by_cases c : k ≤ 3
       · rw [decide_eq_true c]; exact hb _ (yes (by omega))
       · rw [decide_eq_false c]; exact hb _ (no (by omega)))
    | (rw [ieq_eq]; by_cases c : y = 0
       · subst c; exact hb _ (yes (by omega))
       · have c' : (y == 0) = false := by simpa using c
         rw [c']; exact hb _ (no (by omega)))
noncomputable def E22a := ((E21.addR 30 tputS tput_ok)).addR 7 mayS may_ok
noncomputable def E22b := (E22a)
def recNewS : Spec Ob := fun args h => match args, h with
  | [.agg [.int .i64 t, .int .i64 n], .int .i64 me, .agg [.int .i64 s, .int .i64 k, .int .i64 y]], [] => some (.ret (.ptr 0 0) [some (.cells [.int .i64 t, .int .i64 n, .int .u64 0, .int .i64 me, .int .i64 0, .int .u64 (bif rightT s k y then tskV s k y else 0), .bool (!rightT s k y), .int .u64 0])])
  | _, _ => none
theorem recNew_ok : Spec.ok E22b.I Try.prog 8 recNewS := by
  intro args h o ho K hK
  unfold recNewS at ho
  split at ho
  case h_2 => cases ho
  rename_i t n me s k y
  simp only [Option.some.injEq] at ho; subst ho
  have hK : K (.ptr 0 0) [some (.cells [.int .i64 t, .int .i64 n, .int .u64 0, .int .i64 me, .int .i64 0, .int .u64 (bif rightT s k y then tskV s k y else 0), .bool (!rightT s k y), .int .u64 0])] := hK
  refine CallOk.trim (callOk_of (E := E22b) Try.checked.mixed (L := LL) (n := 10) (of_nf (q := True ∧ K (.ptr 0 0) [some (.cells [.int .i64 t, .int .i64 n, .int .u64 0, .int .i64 me, .int .i64 0, .int .u64 (bif rightT s k y then tskV s k y else 0), .bool !ieq (bif rightT s k y then 0 else 1) 0, .int .u64 0])]) (by kernel_rfl) ?_))
  generalize rightT s k y = b at hK ⊢
  refine ⟨trivial, ?_⟩
  cases b <;> exact hK
def pndB (xs : List Int) (t n a : Int) : Bool := ile 0 a && (ilt a t && pendB (cutI (peek xs (2 * n + 5 + 2 * t + 3 * a + 2)) 49 3))
def pndS : RSpec Ob := fun args h => match args, memPat h with
  | [.ptr 0 0, .agg [.int .i64 t, .int .i64 n], .int .i64 a], some (l, s) => some (l = s.xs.length ∧ (0 ≤ t ∧ t ≤ 100000) ∧ (0 ≤ n ∧ n ≤ 100000), .bool (pndB s.xs t n a))
  | _, _ => none
theorem pnd_ok : Spec.ok E22b.I Try.prog 14 pndS.spec := by
  intro args h o ho K hK
  unfold RSpec.spec at ho
  split at ho
  case h_2 => cases ho
  rename_i pp vv hv
  unfold pndS at hv
  split at hv
  case h_2 => cases hv
  rename_i t n a l s hm
  simp only [Option.some.injEq, Prod.mk.injEq] at hv
  obtain ⟨rfl, rfl⟩ := hv
  simp only [Option.some.injEq] at ho; subst ho
  obtain ⟨⟨hl, ht, hn⟩, hK⟩ := hK
  have hh := memPat_eq hm hl
  subst hh
  have hK : K (.bool (pndB s.xs t n a)) (memH s) := hK
  refine CallOk.trim (callOk_of (E := E22b) Try.checked.mixed (L := LL) (n := 10) (of_nf (q := bif ile 0 a then bif ilt a t then (((0 : Int) ≤ t ∧ t ≤ (100000 : Int)) ∧ ((0 : Int) ≤ n ∧ n ≤ (100000 : Int)) ∧ (-1099511627776 : Int) ≤ a ∧ a ≤ (1099511627776 : Int)) ∧ (List.length s.3 = List.length s.3 ∧ True) ∧ True ∧ True ∧ K (.bool (pendB (cutI (peek s.3 (2 * n + 5 + 2 * t + 3 * a + 2)) 49 3))) [some (.cells [.int .i64 s.1, .int .i64 s.2, .slice 1 0 (List.length s.3) 1, .int .i64 s.4, .int .i64 s.5, .int .i64 s.6, .int .u64 s.7, .int .u64 s.8, .bool s.9]), some (.ints (some .u64) s.3)] else K (.bool false) [some (.cells [.int .i64 s.1, .int .i64 s.2, .slice 1 0 (List.length s.3) 1, .int .i64 s.4, .int .i64 s.5, .int .i64 s.6, .int .u64 s.7, .int .u64 s.8, .bool s.9]), some (.ints (some .u64) s.3)] else K (.bool false) [some (.cells [.int .i64 s.1, .int .i64 s.2, .slice 1 0 (List.length s.3) 1, .int .i64 s.4, .int .i64 s.5, .int .i64 s.6, .int .u64 s.7, .int .u64 s.8, .bool s.9]), some (.ints (some .u64) s.3)]) (by kernel_rfl) ?_))
  unfold pndB at hK
  refine cond_go (fun e1 => cond_go (fun e2 => ?_) (fun e2 => ?_)) (fun e1 => ?_)
  · rw [e1, e2] at hK
    rw [ile_eq, decide_eq_true_eq] at e1
    rw [ilt_eq, decide_eq_true_eq] at e2
    exact ⟨by omega, ⟨rfl, trivial⟩, trivial, trivial, hK⟩
  · rw [e1, e2] at hK; exact hK
  · rw [e1] at hK; exact hK
noncomputable def E22 := (E22b.addS 8 recNewS recNew_ok).addR 14 pndS pnd_ok
end Go.Sh

