import Derived.Test.YteindpciaceeeaaGreatRows
import Derived.IntWalk
import Derived.Test.YteindpciaceeeaaGreatZSh37dtoSh37e
set_option linter.all false
set_option maxHeartbeats 8000000
namespace Go.Sh
open Go Go.Proofs
variable [Con]
abbrev lE'{α:Type}(a:List α):Prop:=a.length=List.length a
abbrev cK9:List Code1:=[some .i64,some .i64,some .i64,some .i64,some .i64,some .i64,some .i64,none,some .i64]
abbrev cK7:List Code1:=[some .i64,none,some .i64,some .i64,some .i64,none,some .i64]
abbrev cK3:List Code1:=[some .i64,some .i64,some .i64]
abbrev tO'(n:Nat)(l:List AVal):List AVal:=List.replicate n .O++l
abbrev AVal.I(n:Int):AVal:=.int .i64 n
abbrev AVal.N:AVal:=.raw (.pointer none)
abbrev W(x:Int):Int:=IntKind.wrap IntKind.i64 x
abbrev WU(x:Int):Int:=IntKind.wrap IntKind.u64 x
theorem cH{x:Int}(h: -9223372036854775808<=x/\x<=9223372036854775807):IntKind.wrap IntKind.i64 x=x:=IntWalk.i64_in x h
structure MS where
 t:Int
 n:Int
 xs:List Int
 c:Int
 k:Int
 a:Int
 o:Int
 w:Int
 ok:Bool
structure AL where
 got:Int
 at':Int
 left:Int
 found:Int
 free:Bool
structure SWS where
 ph:Nat
 N:List Int
 m:List (Int×Int)
 i:Int
 ks:List Int
 fs:List Int
 gs:List Int
 j:Nat
 l:Nat
structure ENS where
 ph:Nat
 sh:Bool
 dn:Bool
 x:AL
 y:SWS
structure STS where
 me:Int
 sp:Int
 R:List Int
structure PLN where
 now:Bool
 code:Int
 okk:Bool
 val:Int
 addr:Int
 old:Int
 nxt:Int
 mark:Bool
 pops:Int
structure CLS where
 addr:Int
 at':Int
 word:Int
 found:Int
structure PRS where
 key:Int
 nxt:Int
 found:Int
 loaded:Bool
structure HDS where
 u:Int
 no:Int
 at':Int
 tk:Bool
structure DRS where
 th:Int
 at':Int
structure ANS where
 no:Int
 me:Int
 at':Int
 bits:Int
 wrong:Bool
 found:Int
structure AWS where
 code:Int
 okk:Bool
 val:Int
 me:Int
structure EXS where
 popped:Int
 gave:Int
 u:Int
 sh:Int
 kd:Int
 ky:Int
 only:Bool
 att:Int
 at':Int
 found:Int
 word:Int
structure FNS where
 pred:Int
 pw:Int
 curr:Int
 cw:Int
 tries:Int
 ul:List Int
 ab:Bool
 me:Int
 frm:Int
 key:Int
 limit:Int
 at':Int
 moved:Int
 cl:CLS
structure FTS where
 code:Int
 okk:Bool
 val:Int
 failed:Bool
 tries:Int
 sh:Int
 kd:Int
 ky:Int
 most:Int
 at':Int
 p:PLN
 fn:FNS
 cl:CLS
 pr:PRS
structure HPS where
 u:Int
 no:Int
 rounds:Int
 limit:Int
 at':Int
 found:Int
 sh:Int
 kd:Int
 ky:Int
 p:PLN
 ex:EXS
 en:ENS
 fn:FNS
 cl:CLS
 pr:PRS
structure DOS where
 code:Int
 okk:Bool
 val:Int
 slow:Bool
 sh:Int
 kd:Int
 ky:Int
 limit:Int
 at':Int
 hd:HDS
 hp:HPS
 en:ENS
 ft:FTS
 an:ANS
 aw:AWS
 fn:FNS
 dr:DRS
 sw:SWS
structure HST where
 ev:List (List Int)
 cl:List (List Int)
 n0:Int
 n1:Int
 n2:Int
 n3:Int
 n4:Int
 n5:Int
 n6:Int
 n7:Int
structure WKS where
 t:Int
 n:Int
 st:STS
 tk:List (List Int)
 en:Int
 b:Bool
 d:DOS
 tl:List Int
 sl:List Int
structure EGS where
 sh:Int
 th:Int
 nd:Int
 tr:Int
 s:MS
 h:HST
 ws:List WKS
 k:Int
instance:Inhabited PLN:=⟨⟨false,0,false,0,0,0,0,false,0⟩⟩
instance:Inhabited HST:=⟨⟨[],[],0,0,0,0,0,0,0,0⟩⟩
abbrev eX:DRS:=⟨0,0⟩
abbrev eA:HDS:=⟨0,0,0,false⟩
abbrev d9:AWS:=⟨0,false,0,0⟩
abbrev bY:CLS:=⟨0,0,0,0⟩
abbrev dE:PRS:=⟨0,0,0,false⟩
abbrev cX:SWS:=⟨0,[],[],0,[],[],[],0,0⟩
abbrev aFT:PLN:=⟨false,0,false,0,0,0,0,false,0⟩
abbrev d8:ANS:=⟨0,0,0,0,false,0⟩
abbrev bV:ENS:=⟨0,false,false,⟨0,0,0,0,false⟩,⟨0,[],[],0,[],[],[],0,0⟩⟩
abbrev eK:EXS:=⟨0,0,0,0,0,0,false,0,0,0,0⟩
abbrev bP:FNS:=⟨0,0,0,0,0,[],false,0,0,0,0,0,0,⟨0,0,0,0⟩⟩
abbrev dC:FTS:=⟨0,false,0,false,0,0,0,0,0,0,⟨false,0,false,0,0,0,0,false,0⟩,⟨0,0,0,0,0,[],false,0,0,0,0,0,0,⟨0,0,0,0⟩⟩,⟨0,0,0,0⟩,⟨0,0,0,false⟩⟩
abbrev cZ:HPS:=⟨0,0,0,0,0,0,0,0,0,⟨false,0,false,0,0,0,0,false,0⟩,⟨0,0,0,0,0,0,false,0,0,0,0⟩,⟨0,false,false,⟨0,0,0,0,false⟩,⟨0,[],[],0,[],[],[],0,0⟩⟩,⟨0,0,0,0,0,[],false,0,0,0,0,0,0,⟨0,0,0,0⟩⟩,⟨0,0,0,0⟩,⟨0,0,0,false⟩⟩
abbrev eO:DOS:=⟨0,false,0,false,0,0,0,0,0,⟨0,0,0,false⟩,⟨0,0,0,0,0,0,0,0,0,⟨false,0,false,0,0,0,0,false,0⟩,⟨0,0,0,0,0,0,false,0,0,0,0⟩,⟨0,false,false,⟨0,0,0,0,false⟩,⟨0,[],[],0,[],[],[],0,0⟩⟩,⟨0,0,0,0,0,[],false,0,0,0,0,0,0,⟨0,0,0,0⟩⟩,⟨0,0,0,0⟩,⟨0,0,0,false⟩⟩,⟨0,false,false,⟨0,0,0,0,false⟩,⟨0,[],[],0,[],[],[],0,0⟩⟩,⟨0,false,0,false,0,0,0,0,0,0,⟨false,0,false,0,0,0,0,false,0⟩,⟨0,0,0,0,0,[],false,0,0,0,0,0,0,⟨0,0,0,0⟩⟩,⟨0,0,0,0⟩,⟨0,0,0,false⟩⟩,⟨0,0,0,0,false,0⟩,⟨0,false,0,0⟩,⟨0,0,0,0,0,[],false,0,0,0,0,0,0,⟨0,0,0,0⟩⟩,⟨0,0⟩,⟨0,[],[],0,[],[],[],0,0⟩⟩
inductive Mc where
 | sweep (t n:Int) (y:SWS)
 | ensure (t n:Int) (e:ENS)
 | store (t n:Int) (s:STS)
 | clear (t n:Int) (x:CLS)
 | prepare (t n:Int) (x:PRS)
 | head (t n:Int) (x:HDS)
 | drop (t n:Int) (x:DRS)
 | announce (t n:Int) (x:ANS)
 | answer (t n:Int) (x:AWS)
 | exec (t n:Int) (x:EXS)
 | find (t n:Int) (x:FNS)
 | fast (t n:Int) (x:FTS)
 | help (t n:Int) (x:HPS)
 | doer (t n:Int) (x:DOS)
 | hist (x:HST)
 | worker (x:WKS)
 | wrow (ws:List WKS)
 | whole (ws:List WKS) (i:Nat)
 | srow (ws:List (List Int))
 | shole (ws:List (List Int)) (i:Nat)
 | engine (x:EGS)
abbrev Ob:=Mc
def alE(t n:Int)(x:AL):Option (aG Mc):=some (.cells [.int .i64 t,.int .i64 n,.int .i64 x.got,.int .i64 x.at',.int .i64 x.left,.int .u64 x.found,.bool x.free])
def ND(t n:Int)(y:SWS):aC Mc:=match y.ph with
 | 0=>[some (.cells [.ptr 1 0,.raw (.pointer none)]),none]
 | 1=>[some (.cells [.ptr 1 0,.ptr 2 0]),none,some (.cells [.int .i64 t,.int .i64 n,.raw (.slice none 0 0),.raw (.slice none 0 0),.slice 3 0 y.N.length 1,.map 4,.int .i64 y.i,.raw (.pointer none)]),some (.ints (some .i64) y.N),some (.imap .i64 none y.m)]
 | 2=>[some (.cells [.ptr 1 0,.ptr 2 0]),none,some (.cells [.int .i64 t,.int .i64 n,.slice 3 0 y.ks.length 1,.slice 4 0 y.fs.length 1,.slice 5 0 y.N.length 1,.map 6,.int .i64 y.i,.ptr 7 0]),some (.ints (some .i64) y.ks),some (.ints (some .i64) y.fs),some (.ints (some .i64) y.N),some (.imap .i64 none y.m),some (.cells [.int .i64 t,.int .i64 n,.slice 8 y.j y.l 1]),some (.ints (some .i64) y.gs)]
 | _=>[some (.cells [.ptr 1 0,.O]),none]
def DU(t n:Int)(e:ENS):aC Mc:=match e.ph with
 | 0=>[some (.cells [.ptr 1 0,.bool e.sh,.raw (.pointer none),.raw (.pointer none),.bool e.dn]),none]
 | 1=>[some (.cells [.ptr 1 0,.bool e.sh,.ptr 2 0,.raw (.pointer none),.bool e.dn]),none,alE t n e.x]
 | 2=>[some (.cells [.ptr 1 0,.bool e.sh,.ptr 2 0,.ptr 3 0,.bool e.dn]),none,alE t n e.x,some (.cells [.ptr 1 0,.raw (.pointer none)])]
 | 3=>[some (.cells [.ptr 1 0,.bool e.sh,.ptr 2 0,.ptr 3 0,.bool e.dn]),none,alE t n e.x,some (.cells [.ptr 1 0,.ptr 4 0]),some (.cells [.int .i64 t,.int .i64 n,.raw (.slice none 0 0),.raw (.slice none 0 0),.slice 5 0 e.y.N.length 1,.map 6,.int .i64 e.y.i,.raw (.pointer none)]),some (.ints (some .i64) e.y.N),some (.imap .i64 none e.y.m)]
 | _=>[some (.cells [.ptr 1 0,.bool e.sh,.ptr 2 0,.ptr 3 0,.bool e.dn]),none,alE t n e.x,some (.cells [.ptr 1 0,.ptr 4 0]),some (.cells [.int .i64 t,.int .i64 n,.slice 5 0 e.y.ks.length 1,.slice 6 0 e.y.fs.length 1,.slice 7 0 e.y.N.length 1,.map 8,.int .i64 e.y.i,.ptr 9 0]),some (.ints (some .i64) e.y.ks),some (.ints (some .i64) e.y.fs),some (.ints (some .i64) e.y.N),some (.imap .i64 none e.y.m),some (.cells [.int .i64 t,.int .i64 n,.slice 10 e.y.j e.y.l 1]),some (.ints (some .i64) e.y.gs)]
def dK(t n:Int)(s:STS):aC Mc:=[some (.cells [.int .i64 t,.int .i64 n,.int .i64 s.me,.int .i64 s.sp,.slice 1 0 s.R.length 1]),some (.ints (some .i64) s.R)]
theorem bK{a b:Int}(h:a≠b):ieq a b=false:=by
 rw [cI];simpa using h
abbrev lX(t n:Int)(x:CLS):aC Mc:=[some (.cells [.int .i64 t,.int .i64 n,.int .i64 x.addr,.int .i64 x.at',.int .u64 x.word,.int .u64 x.found])]
def aCg(t n:Int)(x:CLS):aC Mc:=lX t n x
abbrev rX(t n:Int)(x:PRS):aC Mc:=[some (.cells [.ptr 1 0,.int .i64 x.key,.int .i64 x.nxt,.int .u64 x.found,.bool x.loaded]),none]
def SJ(t n:Int)(x:PRS):aC Mc:=rX t n x
abbrev y4(t n:Int)(x:HDS):aC Mc:=[some (.cells [.int .i64 t,.int .i64 n,.int .i64 x.u,.int .u64 x.no,.int .i64 x.at',.bool x.tk])]
def aGT(t n:Int)(x:HDS):aC Mc:=y4 t n x
abbrev yP(t n:Int)(x:DRS):aC Mc:=[some (.cells [.int .i64 t,.int .i64 n,.int .i64 x.th,.int .i64 x.at'])]
def aFY(t n:Int)(x:DRS):aC Mc:=yP t n x
abbrev eQ(t n:Int)(x:ANS):aC Mc:=[some (.cells [.int .i64 t,.int .i64 n,.int .u64 x.no,.int .i64 x.me,.int .i64 x.at',.int .u64 x.bits,.bool x.wrong,.int .u64 x.found])]
def JW(t n:Int)(x:ANS):aC Mc:=eQ t n x
abbrev pX(t n:Int)(x:AWS):aC Mc:=[some (.cells [.int .i64 t,.int .i64 n,.int .i64 x.code,.bool x.okk,.int .i64 x.val,.int .i64 x.me])]
def UV(t n:Int)(x:AWS):aC Mc:=pX t n x
abbrev gR(t n:Int)(x:EXS):aC Mc:=[some (.cells [.int .i64 t,.int .i64 n,.int .i64 x.popped,.int .i64 x.gave,.int .i64 x.u,.int .i64 x.sh,.int .i64 x.kd,.int .i64 x.ky,.bool x.only,.int .i64 x.att,.int .i64 x.at',.int .u64 x.found,.int .u64 x.word])]
def aGq(t n:Int)(x:EXS):aC Mc:=gR t n x
abbrev kZ(t n:Int)(x:FNS):aC Mc:=[some (.cells [.int .i64 t,.int .i64 n,.int .i64 x.pred,.int .u64 x.pw,.int .i64 x.curr,.int .u64 x.cw,.int .i64 x.tries,.slice 1 0 x.ul.length 1,.bool x.ab,.int .i64 x.me,.int .i64 x.frm,.int .i64 x.key,.int .i64 x.limit,.int .i64 x.at',.int .i64 x.moved,.O]),some (.ints (some .i64) x.ul)]
abbrev qE(t n:Int)(x:FNS):aC Mc:=[some (.cells [.int .i64 t,.int .i64 n,.int .i64 x.pred,.int .u64 x.pw,.int .i64 x.curr,.int .u64 x.cw,.int .i64 x.tries,.slice 1 0 x.ul.length 1,.bool x.ab,.int .i64 x.me,.int .i64 x.frm,.int .i64 x.key,.int .i64 x.limit,.int .i64 x.at',.int .i64 x.moved,.ptr 2 0]),some (.ints (some .i64) x.ul),some (.abs (.clear t n x.cl) [])]
def u2(t n:Int)(x:FNS):aC Mc:=bif ieq x.at' 4 then qE t n x else kZ t n x
theorem iJ{t n:Int}{x:FNS}(h:x.at'≠4):u2 t n x=kZ t n x:=by
 have h4:=h;unfold u2;rw [bK h4];rfl
theorem H6{t n:Int}{x:FNS}(h:x.at'=4):u2 t n x=qE t n x:=by
 unfold u2;rw [h];rfl
abbrev FO(t n:Int)(x:FTS):aC Mc:=[some (.cells [.ptr 1 0,.int .i64 x.code,.bool x.okk,.int .i64 x.val,.bool x.failed,.int .i64 x.tries,.int .i64 x.sh,.int .i64 x.kd,.int .i64 x.ky,.int .i64 x.most,.int .i64 x.at',.bool x.p.now,.int .i64 x.p.code,.bool x.p.okk,.int .i64 x.p.val,.int .i64 x.p.addr,.int .u64 x.p.old,.int .i64 x.p.nxt,.bool x.p.mark,.int .i64 x.p.pops,.O,.O,.O]),none]
abbrev qD(t n:Int)(x:FTS):aC Mc:=[some (.cells [.ptr 1 0,.int .i64 x.code,.bool x.okk,.int .i64 x.val,.bool x.failed,.int .i64 x.tries,.int .i64 x.sh,.int .i64 x.kd,.int .i64 x.ky,.int .i64 x.most,.int .i64 x.at',.bool x.p.now,.int .i64 x.p.code,.bool x.p.okk,.int .i64 x.p.val,.int .i64 x.p.addr,.int .u64 x.p.old,.int .i64 x.p.nxt,.bool x.p.mark,.int .i64 x.p.pops,.ptr 2 0,.O,.O]),none,some (.abs (.find t n x.fn) [])]
abbrev uX(t n:Int)(x:FTS):aC Mc:=[some (.cells [.ptr 1 0,.int .i64 x.code,.bool x.okk,.int .i64 x.val,.bool x.failed,.int .i64 x.tries,.int .i64 x.sh,.int .i64 x.kd,.int .i64 x.ky,.int .i64 x.most,.int .i64 x.at',.bool x.p.now,.int .i64 x.p.code,.bool x.p.okk,.int .i64 x.p.val,.int .i64 x.p.addr,.int .u64 x.p.old,.int .i64 x.p.nxt,.bool x.p.mark,.int .i64 x.p.pops,.O,.ptr 2 0,.O]),none,some (.abs (.clear t n x.cl) [])]
abbrev uY(t n:Int)(x:FTS):aC Mc:=[some (.cells [.ptr 1 0,.int .i64 x.code,.bool x.okk,.int .i64 x.val,.bool x.failed,.int .i64 x.tries,.int .i64 x.sh,.int .i64 x.kd,.int .i64 x.ky,.int .i64 x.most,.int .i64 x.at',.bool x.p.now,.int .i64 x.p.code,.bool x.p.okk,.int .i64 x.p.val,.int .i64 x.p.addr,.int .u64 x.p.old,.int .i64 x.p.nxt,.bool x.p.mark,.int .i64 x.p.pops,.O,.O,.ptr 2 0]),none,some (.abs (.prepare t n x.pr) [1])]
def m8(t n:Int)(x:FTS):aC Mc:=bif ieq x.at' 0 then qD t n x else bif ieq x.at' 1 then uX t n x else bif ieq x.at' 2 then uY t n x else FO t n x
theorem BV{t n:Int}{x:FTS}(h:x.at'≠0/\x.at'≠1/\x.at'≠2):m8 t n x=FO t n x:=by
 have ⟨h0,h1,h2⟩:=h;unfold m8;rw [bK h0,bK h1,bK h2];rfl
theorem yW{t n:Int}{x:FTS}(h:x.at'=0):m8 t n x=qD t n x:=by
 unfold m8;rw [h];rfl
theorem H4{t n:Int}{x:FTS}(h:x.at'=1):m8 t n x=uX t n x:=by
 unfold m8;rw [h];rfl
theorem H5{t n:Int}{x:FTS}(h:x.at'=2):m8 t n x=uY t n x:=by
 unfold m8;rw [h];rfl
abbrev nB(t n:Int)(x:HPS):aC Mc:=[some (.cells [.ptr 1 0,.int .i64 x.u,.int .u64 x.no,.int .i64 x.rounds,.int .i64 x.limit,.int .i64 x.at',.int .u64 x.found,.int .i64 x.sh,.int .i64 x.kd,.int .i64 x.ky,.bool x.p.now,.int .i64 x.p.code,.bool x.p.okk,.int .i64 x.p.val,.int .i64 x.p.addr,.int .u64 x.p.old,.int .i64 x.p.nxt,.bool x.p.mark,.int .i64 x.p.pops,.O,.O,.O,.O,.O]),none]
abbrev vA(t n:Int)(x:HPS):aC Mc:=[some (.cells [.ptr 1 0,.int .i64 x.u,.int .u64 x.no,.int .i64 x.rounds,.int .i64 x.limit,.int .i64 x.at',.int .u64 x.found,.int .i64 x.sh,.int .i64 x.kd,.int .i64 x.ky,.bool x.p.now,.int .i64 x.p.code,.bool x.p.okk,.int .i64 x.p.val,.int .i64 x.p.addr,.int .u64 x.p.old,.int .i64 x.p.nxt,.bool x.p.mark,.int .i64 x.p.pops,.ptr 2 0,.O,.O,.O,.O]),none,some (.abs (.exec t n x.ex) [])]
abbrev u9(t n:Int)(x:HPS):aC Mc:=[some (.cells [.ptr 1 0,.int .i64 x.u,.int .u64 x.no,.int .i64 x.rounds,.int .i64 x.limit,.int .i64 x.at',.int .u64 x.found,.int .i64 x.sh,.int .i64 x.kd,.int .i64 x.ky,.bool x.p.now,.int .i64 x.p.code,.bool x.p.okk,.int .i64 x.p.val,.int .i64 x.p.addr,.int .u64 x.p.old,.int .i64 x.p.nxt,.bool x.p.mark,.int .i64 x.p.pops,.O,.ptr 2 0,.O,.O,.O]),none,some (.abs (.ensure t n x.en) [1])]
abbrev vB(t n:Int)(x:HPS):aC Mc:=[some (.cells [.ptr 1 0,.int .i64 x.u,.int .u64 x.no,.int .i64 x.rounds,.int .i64 x.limit,.int .i64 x.at',.int .u64 x.found,.int .i64 x.sh,.int .i64 x.kd,.int .i64 x.ky,.bool x.p.now,.int .i64 x.p.code,.bool x.p.okk,.int .i64 x.p.val,.int .i64 x.p.addr,.int .u64 x.p.old,.int .i64 x.p.nxt,.bool x.p.mark,.int .i64 x.p.pops,.O,.O,.ptr 2 0,.O,.O]),none,some (.abs (.find t n x.fn) [])]
abbrev u7(t n:Int)(x:HPS):aC Mc:=[some (.cells [.ptr 1 0,.int .i64 x.u,.int .u64 x.no,.int .i64 x.rounds,.int .i64 x.limit,.int .i64 x.at',.int .u64 x.found,.int .i64 x.sh,.int .i64 x.kd,.int .i64 x.ky,.bool x.p.now,.int .i64 x.p.code,.bool x.p.okk,.int .i64 x.p.val,.int .i64 x.p.addr,.int .u64 x.p.old,.int .i64 x.p.nxt,.bool x.p.mark,.int .i64 x.p.pops,.O,.O,.O,.ptr 2 0,.O]),none,some (.abs (.clear t n x.cl) [])]
abbrev vC(t n:Int)(x:HPS):aC Mc:=[some (.cells [.ptr 1 0,.int .i64 x.u,.int .u64 x.no,.int .i64 x.rounds,.int .i64 x.limit,.int .i64 x.at',.int .u64 x.found,.int .i64 x.sh,.int .i64 x.kd,.int .i64 x.ky,.bool x.p.now,.int .i64 x.p.code,.bool x.p.okk,.int .i64 x.p.val,.int .i64 x.p.addr,.int .u64 x.p.old,.int .i64 x.p.nxt,.bool x.p.mark,.int .i64 x.p.pops,.O,.O,.O,.O,.ptr 2 0]),none,some (.abs (.prepare t n x.pr) [1])]
def jZ(t n:Int)(x:HPS):aC Mc:=bif ieq x.at' 3 then vA t n x else bif ieq x.at' 4 then u9 t n x else bif ieq x.at' 5 then vB t n x else bif ieq x.at' 7 then u7 t n x else bif ieq x.at' 8 then vC t n x else nB t n x
theorem j9{t n:Int}{x:HPS}(h:x.at'≠3/\x.at'≠4/\x.at'≠5/\x.at'≠7/\x.at'≠8):jZ t n x=nB t n x:=by
 have ⟨h3,h4,h5,h7,h8⟩:=h;unfold jZ;rw [bK h3,bK h4,bK h5,bK h7,bK h8];rfl
theorem IX{t n:Int}{x:HPS}(h:x.at'=3):jZ t n x=vA t n x:=by
 unfold jZ;rw [h];rfl
theorem IY{t n:Int}{x:HPS}(h:x.at'=4):jZ t n x=u9 t n x:=by
 unfold jZ;rw [h];rfl
theorem IZ{t n:Int}{x:HPS}(h:x.at'=5):jZ t n x=vB t n x:=by
 unfold jZ;rw [h];rfl
theorem I0{t n:Int}{x:HPS}(h:x.at'=7):jZ t n x=u7 t n x:=by
 unfold jZ;rw [h];rfl
theorem I1{t n:Int}{x:HPS}(h:x.at'=8):jZ t n x=vC t n x:=by
 unfold jZ;rw [h];rfl
abbrev pA(t n:Int)(x:DOS):aC Mc:=[some (.cells [.ptr 1 0,.int .i64 x.code,.bool x.okk,.int .i64 x.val,.bool x.slow,.int .i64 x.sh,.int .i64 x.kd,.int .i64 x.ky,.int .i64 x.limit,.int .i64 x.at',.O,.O,.O,.O,.O,.O,.O,.O,.O]),none]
abbrev f9(t n:Int)(x:DOS):aC Mc:=[some (.cells [.ptr 1 0,.int .i64 x.code,.bool x.okk,.int .i64 x.val,.bool x.slow,.int .i64 x.sh,.int .i64 x.kd,.int .i64 x.ky,.int .i64 x.limit,.int .i64 x.at',.ptr 2 0,.O,.O,.O,.O,.O,.O,.O,.O]),none,some (.abs (.head t n x.hd) [])]
abbrev dW(t n:Int)(x:DOS):aC Mc:=[some (.cells [.ptr 1 0,.int .i64 x.code,.bool x.okk,.int .i64 x.val,.bool x.slow,.int .i64 x.sh,.int .i64 x.kd,.int .i64 x.ky,.int .i64 x.limit,.int .i64 x.at',.O,.ptr 2 0,.O,.O,.O,.O,.O,.O,.O]),none,some (.abs (.help t n x.hp) [1])]
abbrev iF(t n:Int)(x:DOS):aC Mc:=[some (.cells [.ptr 1 0,.int .i64 x.code,.bool x.okk,.int .i64 x.val,.bool x.slow,.int .i64 x.sh,.int .i64 x.kd,.int .i64 x.ky,.int .i64 x.limit,.int .i64 x.at',.O,.O,.ptr 2 0,.O,.O,.O,.O,.O,.O]),none,some (.abs (.ensure t n x.en) [1])]
abbrev iH(t n:Int)(x:DOS):aC Mc:=[some (.cells [.ptr 1 0,.int .i64 x.code,.bool x.okk,.int .i64 x.val,.bool x.slow,.int .i64 x.sh,.int .i64 x.kd,.int .i64 x.ky,.int .i64 x.limit,.int .i64 x.at',.O,.O,.O,.ptr 2 0,.O,.O,.O,.O,.O]),none,some (.abs (.fast t n x.ft) [1])]
abbrev iC(t n:Int)(x:DOS):aC Mc:=[some (.cells [.ptr 1 0,.int .i64 x.code,.bool x.okk,.int .i64 x.val,.bool x.slow,.int .i64 x.sh,.int .i64 x.kd,.int .i64 x.ky,.int .i64 x.limit,.int .i64 x.at',.O,.O,.O,.O,.ptr 2 0,.O,.O,.O,.O]),none,some (.abs (.announce t n x.an) [])]
abbrev iD(t n:Int)(x:DOS):aC Mc:=[some (.cells [.ptr 1 0,.int .i64 x.code,.bool x.okk,.int .i64 x.val,.bool x.slow,.int .i64 x.sh,.int .i64 x.kd,.int .i64 x.ky,.int .i64 x.limit,.int .i64 x.at',.O,.O,.O,.O,.O,.ptr 2 0,.O,.O,.O]),none,some (.abs (.answer t n x.aw) [])]
abbrev iG(t n:Int)(x:DOS):aC Mc:=[some (.cells [.ptr 1 0,.int .i64 x.code,.bool x.okk,.int .i64 x.val,.bool x.slow,.int .i64 x.sh,.int .i64 x.kd,.int .i64 x.ky,.int .i64 x.limit,.int .i64 x.at',.O,.O,.O,.O,.O,.O,.ptr 2 0,.O,.O]),none,some (.abs (.find t n x.fn) [])]
abbrev iE(t n:Int)(x:DOS):aC Mc:=[some (.cells [.ptr 1 0,.int .i64 x.code,.bool x.okk,.int .i64 x.val,.bool x.slow,.int .i64 x.sh,.int .i64 x.kd,.int .i64 x.ky,.int .i64 x.limit,.int .i64 x.at',.O,.O,.O,.O,.O,.O,.O,.ptr 2 0,.O]),none,some (.abs (.drop t n x.dr) [])]
abbrev iI(t n:Int)(x:DOS):aC Mc:=[some (.cells [.ptr 1 0,.int .i64 x.code,.bool x.okk,.int .i64 x.val,.bool x.slow,.int .i64 x.sh,.int .i64 x.kd,.int .i64 x.ky,.int .i64 x.limit,.int .i64 x.at',.O,.O,.O,.O,.O,.O,.O,.O,.ptr 2 0]),none,some (.abs (.sweep t n x.sw) [1])]
def eE(t n:Int)(x:DOS):aC Mc:=bif ieq x.at' 0 then f9 t n x else bif ieq x.at' 1 then dW t n x else bif ieq x.at' 5 then dW t n x else bif ieq x.at' 2 then iF t n x else bif ieq x.at' 3 then iH t n x else bif ieq x.at' 4 then iC t n x else bif ieq x.at' 6 then iD t n x else bif ieq x.at' 7 then iG t n x else bif ieq x.at' 8 then iE t n x else bif ieq x.at' 9 then iI t n x else pA t n x
theorem uT{t n:Int}{x:DOS}(h:x.at'≠0/\x.at'≠1/\x.at'≠5/\x.at'≠2/\x.at'≠3/\x.at'≠4/\x.at'≠6/\x.at'≠7/\x.at'≠8/\x.at'≠9):eE t n x=pA t n x:=by
 have ⟨h0,h1,h5,h2,h3,h4,h6,h7,h8,h9⟩:=h;unfold eE;rw [bK h0,bK h1,bK h5,bK h2,bK h3,bK h4,bK h6,bK h7,bK h8,bK h9];rfl
theorem qB{t n:Int}{x:DOS}(h:x.at'=0):eE t n x=f9 t n x:=by
 unfold eE;rw [h];rfl
theorem tL{t n:Int}{x:DOS}(h:x.at'=1):eE t n x=dW t n x:=by
 unfold eE;rw [h];rfl
theorem tP{t n:Int}{x:DOS}(h:x.at'=5):eE t n x=dW t n x:=by
 unfold eE;rw [h];rfl
theorem tM{t n:Int}{x:DOS}(h:x.at'=2):eE t n x=iF t n x:=by
 unfold eE;rw [h];rfl
theorem tN{t n:Int}{x:DOS}(h:x.at'=3):eE t n x=iH t n x:=by
 unfold eE;rw [h];rfl
theorem tO{t n:Int}{x:DOS}(h:x.at'=4):eE t n x=iC t n x:=by
 unfold eE;rw [h];rfl
theorem tQ{t n:Int}{x:DOS}(h:x.at'=6):eE t n x=iD t n x:=by
 unfold eE;rw [h];rfl
theorem tR{t n:Int}{x:DOS}(h:x.at'=7):eE t n x=iG t n x:=by
 unfold eE;rw [h];rfl
theorem tS{t n:Int}{x:DOS}(h:x.at'=8):eE t n x=iE t n x:=by
 unfold eE;rw [h];rfl
theorem tT{t n:Int}{x:DOS}(h:x.at'=9):eE t n x=iI t n x:=by
 unfold eE;rw [h];rfl
abbrev evK:List Code1:=[some .i64,none,some .i64,some .i64,some .i64,none,some .i64]
abbrev clK:List Code1:=[some .i64,some .i64,some .i64,some .i64,some .i64,some .i64,some .i64,none,some .i64]
abbrev tkK:List Code1:=[some .i64,some .i64,some .i64]
def z1(x:HST):aC Mc:=[some (.cells [.tslice 1 0 x.ev.length 7,.tslice 2 0 x.cl.length 9,.int .i64 x.n0,.int .i64 x.n1,.int .i64 x.n2,.int .i64 x.n3,.int .i64 x.n4,.int .i64 x.n5,.int .i64 x.n6,.int .i64 x.n7]),some (.tab evK x.ev),some (.tab clK x.cl)]
abbrev mH(x:WKS):aC Mc:=[some (.cells [.ptr 1 0,.tslice 2 0 x.tk.length 3,.int .i64 x.en,.raw (.pointer none),.slice 3 0 x.tl.length 1,.slice 4 0 x.sl.length 1]),some (.abs (.store x.t x.n x.st) []),some (.tab tkK x.tk),some (.ints (some .i64) x.tl),some (.ints (some .i64) x.sl)]
abbrev pP(x:WKS):aC Mc:=[some (.cells [.ptr 1 0,.tslice 2 0 x.tk.length 3,.int .i64 x.en,.ptr 3 0,.slice 4 0 x.tl.length 1,.slice 5 0 x.sl.length 1]),some (.abs (.store x.t x.n x.st) []),some (.tab tkK x.tk),some (.abs (.doer x.t x.n x.d) [1]),some (.ints (some .i64) x.tl),some (.ints (some .i64) x.sl)]
def wkG(x:WKS):aC Mc:=bif x.b then pP x else mH x
theorem oW{x:WKS}(h:x.b=false):wkG x=mH x:=by unfold wkG;rw [h];rfl
theorem wE{x:WKS}(h:x.b=true):wkG x=pP x:=by unfold wkG;rw [h];rfl
def egG(x:EGS):aC Mc:=[some (.cells [.int .i64 x.sh,.int .i64 x.th,.int .i64 x.nd,.int .i64 x.tr,.ptr 1 0,.ptr 3 0,.slice 4 0 x.ws.length 1,.int .i64 x.k]),some (.cells [.int .i64 x.s.t,.int .i64 x.s.n,.slice 2 0 x.s.xs.length 1,.int .i64 x.s.c,.int .i64 x.s.k,.int .i64 x.s.a,.int .u64 x.s.o,.int .u64 x.s.w,.bool x.s.ok]),some (.ints (some .u64) x.s.xs),some (.abs (.hist x.h) []),some (.abs (.wrow x.ws) [])]
def intE:wT Mc where
 X:=List Int
 hd:=fun k xs=>.slice k 0 xs.length 1
 en:=fun xs=>.ints (some .i64) xs
def tbl:Mc->Nat×aC Mc
 | .sweep t n y=>(1,ND t n y)
 | .ensure t n e=>(1,DU t n e)
 | .store t n s=>(0,dK t n s)
 | .clear t n x=>(0,aCg t n x)
 | .prepare t n x=>(1,SJ t n x)
 | .head t n x=>(0,aGT t n x)
 | .drop t n x=>(0,aFY t n x)
 | .announce t n x=>(0,JW t n x)
 | .answer t n x=>(0,UV t n x)
 | .exec t n x=>(0,aGq t n x)
 | .find t n x=>(0,u2 t n x)
 | .fast t n x=>(1,m8 t n x)
 | .help t n x=>(1,jZ t n x)
 | .doer t n x=>(1,eE t n x)
 | .hist x=>(0,z1 x)
 | .worker x=>(0,wkG x)
 | .wrow ws=>(0,rowE (ws.map fun w=>some (.worker w)))
 | .whole ws i=>(1,kP (ws.map fun w=>some (.worker w)) i)
 | .engine x=>(0,egG x)
 | .srow ws=>(0,fD intE ws)
 | .shole ws i=>(1,gT intE ws i)
def memH(s:MS):aC Ob:=[some (.cells [.int .i64 s.t,.int .i64 s.n,.slice 1 0 s.xs.length 1,.int .i64 s.c,.int .i64 s.k,.int .i64 s.a,.int .u64 s.o,.int .u64 s.w,.bool s.ok]),some (.ints (some .u64) s.xs)]
noncomputable def E0:Env Ob Tryz.prog where
 I:=obI tbl
 cps:=fun _=>none
 det:=fun _=>none
 meth:=F8 Tryz.prog
 cpsOk:=by intro f S h;cases h
 detOk:=by intro f S h;cases h
 methOk:=fun t n f h v w _=>F9 h v w
abbrev q9'(s:MS):Prop:=lE' s.3/\(0:Int)<=s.4/\s.4<=(4611686018427387904:Int)
theorem aJ{b:Bool}{X Y:Prop}(h1:b=true->X)(h2:b=false->Y):cond b X Y:=aU h1 h2
def laySizeS:aH Ob:=fun args h=>match args,h with
 | [.agg [.int .i64 t,.int .i64 n]],[]=>some (.pre ((0<=t/\t<=100000)/\(0<=n/\n<=100000)) (.ret (.int .i64 (2*n+5*t+6)) []))
 | _,_=>none
theorem F4:aH.ok E0.I Tryz.prog 100 laySizeS:=by
 intro args h o ho K hK;unfold laySizeS at ho;split at ho<;>cases ho
 rename_i t n;obtain⟨hp,hK⟩:=hK;have hK:K (.int .i64 (2*n+5*t+6)) []:=hK;refine aJ1 (aD (E:=E0) Tryz.checked.mixed (L:=fun _ _=>none) (n:=10) (aK (q:=K (.int .i64 (W (W (W (W (W (W (W (W (W (1+n)+4)+W (n+1)) - 1)+W (2*t))+0)+W (3*t))+0)+1))) []) (by kernel_rfl) ?_))
 simp(disch:=omega) only [W,cH]
 refine cast (congrArg (fun z=>K (AVal.int .i64 z) []) ?_) hK;omega
def layLifeS:aH Ob:=fun args h=>match args,h with
 | [.agg [.int .i64 t,.int .i64 n],.int .i64 a],[]=>some (.pre ((0<=t/\t<=100000)/\(0<=n/\n<=100000)/\(-1099511627776<=a/\a<=1099511627776)) (.ret (.int .i64 (n+4+a)) []))
 | _,_=>none
theorem F2:aH.ok E0.I Tryz.prog 56 layLifeS:=by
 intro args h o ho K hK;unfold layLifeS at ho;split at ho<;>cases ho
 rename_i t n a;obtain⟨hp,hK⟩:=hK;have hK:K (.int .i64 (n+4+a)) []:=hK;refine aJ1 (aD (E:=E0) Tryz.checked.mixed (L:=fun _ _=>none) (n:=10) (aK (q:=K (.int .i64 (W (W (W (W (1+n)+4)+a) - 1))) []) (by kernel_rfl) ?_))
 simp(disch:=omega) only [W,cH]
 refine cast (congrArg (fun z=>K (AVal.int .i64 z) []) ?_) hK;omega
def laySlotS:aH Ob:=fun args h=>match args,h with
 | [.agg [.int .i64 t,.int .i64 n],.int .i64 a,.int .i64 b],[]=>some (.pre ((0<=t/\t<=100000)/\(0<=n/\n<=100000)/\(-1099511627776<=a/\a<=1099511627776)/\(-1099511627776<=b/\b<=1099511627776)) (.ret (.int .i64 (2*n+5+2*a+b)) []))
 | _,_=>none
theorem F5:aH.ok E0.I Tryz.prog 127 laySlotS:=by
 intro args h o ho K hK;unfold laySlotS at ho;split at ho<;>cases ho
 rename_i t n a b;obtain⟨hp,hK⟩:=hK;have hK:K (.int .i64 (2*n+5+2*a+b)) []:=hK;refine aJ1 (aD (E:=E0) Tryz.checked.mixed (L:=fun _ _=>none) (n:=10) (aK (q:=K (.int .i64 (W (W (W (W (W (W (1+n)+4)+W (n+1)) - 1)+W (2*a))+b))) []) (by kernel_rfl) ?_))
 simp(disch:=omega) only [W,cH]
 refine cast (congrArg (fun z=>K (AVal.int .i64 z) []) ?_) hK;omega
def layDescS:aH Ob:=fun args h=>match args,h with
 | [.agg [.int .i64 t,.int .i64 n],.int .i64 a],[]=>some (.pre ((0<=t/\t<=100000)/\(0<=n/\n<=100000)/\(-1099511627776<=a/\a<=1099511627776)) (.ret (.int .i64 (2*n+5+2*t+3*a+2)) []))
 | _,_=>none
theorem F1:aH.ok E0.I Tryz.prog 191 layDescS:=by
 intro args h o ho K hK;unfold layDescS at ho;split at ho<;>cases ho
 rename_i t n a;obtain⟨hp,hK⟩:=hK;have hK:K (.int .i64 (2*n+5+2*t+3*a+2)) []:=hK;refine aJ1 (aD (E:=E0) Tryz.checked.mixed (L:=fun _ _=>none) (n:=10) (aK (q:=K (.int .i64 (W (W (W (W (W (W (W (W (1+n)+4)+W (n+1)) - 1)+W (2*t))+0)+W (3*a))+2))) []) (by kernel_rfl) ?_))
 simp(disch:=omega) only [W,cH]
 refine cast (congrArg (fun z=>K (AVal.int .i64 z) []) ?_) hK;omega
def layTaskS:aH Ob:=fun args h=>match args,h with
 | [.agg [.int .i64 t,.int .i64 n],.int .i64 a],[]=>some (.pre ((0<=t/\t<=100000)/\(0<=n/\n<=100000)/\(-1099511627776<=a/\a<=1099511627776)) (.ret (.int .i64 (2*n+5+2*t+3*a+1)) []))
 | _,_=>none
theorem F6:aH.ok E0.I Tryz.prog 198 layTaskS:=by
 intro args h o ho K hK;unfold layTaskS at ho;split at ho<;>cases ho
 rename_i t n a;obtain⟨hp,hK⟩:=hK;have hK:K (.int .i64 (2*n+5+2*t+3*a+1)) []:=hK;refine aJ1 (aD (E:=E0) Tryz.checked.mixed (L:=fun _ _=>none) (n:=10) (aK (q:=K (.int .i64 (W (W (W (W (W (W (W (W (1+n)+4)+W (n+1)) - 1)+W (2*t))+0)+W (3*a))+1))) []) (by kernel_rfl) ?_))
 simp(disch:=omega) only [W,cH]
 refine cast (congrArg (fun z=>K (AVal.int .i64 z) []) ?_) hK;omega
def layTicketS:aH Ob:=fun args h=>match args,h with
 | [.agg [.int .i64 t,.int .i64 n],.int .i64 a],[]=>some (.pre ((0<=t/\t<=100000)/\(0<=n/\n<=100000)/\(-1099511627776<=a/\a<=1099511627776)) (.ret (.int .i64 (2*n+5+2*t+3*a)) []))
 | _,_=>none
theorem y6:aH.ok E0.I Tryz.prog 194 layTicketS:=by
 intro args h o ho K hK;unfold layTicketS at ho;split at ho<;>cases ho
 rename_i t n a;obtain⟨hp,hK⟩:=hK;have hK:K (.int .i64 (2*n+5+2*t+3*a)) []:=hK;refine aJ1 (aD (E:=E0) Tryz.checked.mixed (L:=fun _ _=>none) (n:=10) (aK (q:=K (.int .i64 (W (W (W (W (W (W (W (W (1+n)+4)+W (n+1)) - 1)+W (2*t))+0)+W (3*a))+0))) []) (by kernel_rfl) ?_))
 simp(disch:=omega) only [W,cH]
 refine cast (congrArg (fun z=>K (AVal.int .i64 z) []) ?_) hK;omega
def layCounterS:aH Ob:=fun args h=>match args,h with
 | [.agg [.int .i64 t,.int .i64 n]],[]=>some (.pre ((0<=t/\t<=100000)/\(0<=n/\n<=100000)) (.ret (.int .i64 (2*n+5+2*t+3*t)) []))
 | _,_=>none
theorem wP:aH.ok E0.I Tryz.prog 39 layCounterS:=by
 intro args h o ho K hK;unfold layCounterS at ho;split at ho<;>cases ho
 rename_i t n;obtain⟨hp,hK⟩:=hK;have hK:K (.int .i64 (2*n+5+2*t+3*t)) []:=hK;refine aJ1 (aD (E:=E0) Tryz.checked.mixed (L:=fun _ _=>none) (n:=10) (aK (q:=K (.int .i64 (W (W (W (W (W (W (W (W (1+n)+4)+W (n+1)) - 1)+W (2*t))+0)+W (3*t))+0))) []) (by kernel_rfl) ?_))
 simp(disch:=omega) only [W,cH]
 refine cast (congrArg (fun z=>K (AVal.int .i64 z) []) ?_) hK;omega
def slotsS:aH Ob:=fun args h=>match args,h with
 | [.agg [.int .i64 t,.int .i64 n]],[]=>some (.pre ((0<=t/\t<=100000)/\(0<=n/\n<=100000)) (.ret (.int .i64 (2*t)) []))
 | _,_=>none
theorem S1:aH.ok E0.I Tryz.prog 273 slotsS:=by
 intro args h o ho K hK;unfold slotsS at ho;split at ho<;>cases ho
 rename_i t n;obtain⟨hp,hK⟩:=hK;have hK:K (.int .i64 (2*t)) []:=hK;refine aJ1 (aD (E:=E0) Tryz.checked.mixed (L:=fun _ _=>none) (n:=10) (aK (q:=K (.int .i64 (W (2*t))) []) (by kernel_rfl) ?_))
 simp(disch:=omega) only [W,cH]
 refine cast (congrArg (fun z=>K (AVal.int .i64 z) []) ?_) hK;omega
def eC(t n:Int):Bool:=ile 1 t&&ile t 8&&ile 1 n&&ile n 200
theorem s7{t n:Int} :eC t n=true↔1<=t/\t<=8/\1<=n/\n<=200:=by
 unfold eC;simp only [bZ,Bool.and_eq_true,dT'];omega
def bC(n a:Int):Bool:=ile 1 a&&ile a n
theorem cQ{n a:Int} :bC n a=true↔1<=a/\a<=n:=by
 unfold bC;simp only [bZ,Bool.and_eq_true,dT']
def layRightS:aH Ob:=fun args h=>match args,h with
 | [.agg [.int .i64 t,.int .i64 n]],[]=>some (.pre (True) (.ret (.bool (eC t n)) []))
 | _,_=>none
theorem CQ:aH.ok E0.I Tryz.prog 126 layRightS:=by
 intro args h o ho K hK;unfold layRightS at ho;split at ho<;>cases ho
 rename_i t n;obtain⟨hp,hK⟩:=hK;have hK:K (.bool (eC t n)) []:=hK;refine aJ1 (aD (E:=E0) Tryz.checked.mixed (L:=fun _ _=>none) (n:=10) (aK (q:=bif ile 1 t then bif ile t 8 then bif ile 1 n then K (.bool (ile n 200)) []else K (.bool false) []else K (.bool false) []else K (.bool false) []) (by kernel_rfl) ?_))
 unfold eC at hK;refine aJ (fun e1=>aJ (fun e2=>aJ (fun e3=>?_) (fun e3=>?_)) (fun e2=>?_)) (fun e1=>?_)
 all_goals (simp only [*,Bool.true_and,Bool.false_and,Bool.and_false]at hK;exact hK)
def layNodeS:aH Ob:=fun args h=>match args,h with
 | [.agg [.int .i64 t,.int .i64 n],.int .i64 a],[]=>some (.pre (True) (.ret (.bool (bC n a)) []))
 | _,_=>none
theorem F3:aH.ok E0.I Tryz.prog 116 layNodeS:=by
 intro args h o ho K hK;unfold layNodeS at ho;split at ho<;>cases ho
 rename_i t n a;obtain⟨hp,hK⟩:=hK;have hK:K (.bool (bC n a)) []:=hK;refine aJ1 (aD (E:=E0) Tryz.checked.mixed (L:=fun _ _=>none) (n:=10) (aK (q:=bif ile 1 a then K (.bool (ile a n)) []else K (.bool false) []) (by kernel_rfl) ?_))
 unfold bC at hK;refine aJ (fun e1=>?_) (fun e1=>?_)
 all_goals (simp only [*,Bool.true_and,Bool.false_and,Bool.and_false]at hK;exact hK)
noncomputable def E1:=(((((((((E0.addS 100 laySizeS F4).addS 56 layLifeS F2).addS 127 laySlotS F5).addS 191 layDescS F1).addS 198 layTaskS F6).addS 194 layTicketS y6).addS 39 layCounterS wP).addS 273 slotsS S1).addS 126 layRightS CQ).addS 116 layNodeS F3
def aE(xs:List Int)(a:Int):Int:=if 0<=a/\a<xs.length then xs.getD a.toNat 0 else 0
theorem oB{xs:List Int}{a:Int}(h:0<=a/\a<xs.length):aE xs a=xs.getD a.toNat 0:=if_pos h
theorem fJ{xs:List Int}{a:Int}(h: ¬(0<=a/\a<xs.length)):aE xs a=0:=if_neg h
def dM(xs:List Int)(a:Int):Bool:=ile 0 a&&ilt a (xs.length:Int)
theorem nD{xs:List Int}{a:Int} :dM xs a=true↔0<=a/\a<xs.length:=by
 unfold dM;simp only [bZ,bI,Bool.and_eq_true,dT']
def aIK(xs:List Int)(a x:Int):List Int:=xs.set a.toNat x
def MS.did(s:MS)(k a w:Int)(ok:Bool)(xs:List Int):MS:= {s with xs:=xs,c:=s.c+1,k:=k,a:=a,o:=aE s.xs a,w:=w,ok:=ok}
def MS.store(s:MS)(a x:Int):MS:=bif dM s.xs a then s.did 2 a x true (aIK s.xs a x)else s.did 2 a 0 false s.xs
def nF(h:aC Ob):Option (Nat×MS):=match h with
 | [some (.cells [.int .i64 t,.int .i64 n,.slice 1 0 len 1,.int .i64 c,.int .i64 k,.int .i64 a,.int .u64 o,.int .u64 w,.bool ok]),some (.ints (some .u64) xs)]=>some (len,⟨t,n,xs,c,k,a,o,w,ok⟩)
 | _=>none
theorem jO{h:aC Ob}{l:Nat}{s:MS}(e:nF h=some (l,s))(hl:l=s.xs.length):h=memH s:=by
 unfold nF at e;split at e
 ·simp only [sI',pI']at e;obtain⟨rfl,rfl⟩:=e;simp only at hl;subst hl;rfl
 ·cases e
theorem vG(x:Nat):0+x*1=x:=by omega
def peekS:aH Ob:=fun args h=>match args,nF h with
 | [.ptr 0 0,.int .i64 a],some (l,s)=>some (.pre (l=s.xs.length/\True) (.ret (.int .u64 (aE s.xs a)) (memH (s))))
 | _,_=>none
theorem ZF:aH.ok E1.I Tryz.prog 93 peekS:=by
 intro args h o ho K hK;unfold peekS at ho;split at ho<;>cases ho
 rename_i a l s hm;obtain⟨⟨hl,hp⟩,hK⟩:=hK;have hh:=jO hm hl;subst hh;have hK:K (.int .u64 (aE s.xs a)) (memH (s)):=hK;refine aJ1 (aD (E:=E1) Tryz.checked.mixed (L:=fun _ _=>none) (n:=10) (aK (q:=bif ilt a 0 then K (.int .u64 0) [some (.cells [.int .i64 s.1,.int .i64 s.2,.slice 1 0 s.3.length 1,.int .i64 s.4,.int .i64 s.5,.int .i64 s.6,.int .u64 s.7,.int .u64 s.8,.bool s.9]),some (.ints (some .u64) s.3)]else bif ile (↑s.3.length:Int) a then K (.int .u64 0) [some (.cells [.int .i64 s.1,.int .i64 s.2,.slice 1 0 s.3.length 1,.int .i64 s.4,.int .i64 s.5,.int .i64 s.6,.int .u64 s.7,.int .u64 s.8,.bool s.9]),some (.ints (some .u64) s.3)]else((0:Int)<=a/\a<(↑s.3.length:Int))/\0+Int.toNat a*(1:Nat)<s.3.length/\K (.int .u64 (List.getD s.3 (0+Int.toNat a*1) 0)) [some (.cells [.int .i64 s.1,.int .i64 s.2,.slice 1 0 s.3.length 1,.int .i64 s.4,.int .i64 s.5,.int .i64 s.6,.int .u64 s.7,.int .u64 s.8,.bool s.9]),some (.ints (some .u64) s.3)]) (by kernel_rfl) ?_))
 refine aJ (fun e1=>?_) (fun e1=>aJ (fun e2=>?_) (fun e2=>?_))
 ·rw [bI,dT']at e1;rw [fJ (by omega)]at hK;exact hK
 ·rw [bZ,dT']at e2;rw [fJ (by omega)]at hK;exact hK
 ·rw [bI,dF']at e1;rw [bZ,dF']at e2;refine⟨by omega,by omega,?_⟩
  rw [oB (by omega)]at hK
  rw [vG];exact hK
def lastS:aH Ob:=fun args h=>match args,nF h with
 | [.ptr 0 0],some (l,s)=>some (.pre (l=s.xs.length/\True) (.ret (.agg [.int .i64 s.k,.int .i64 s.a,.int .u64 s.o,.int .u64 s.w,.bool s.ok]) (memH (s))))
 | _,_=>none
theorem Y2:aH.ok E1.I Tryz.prog 46 lastS:=by
 intro args h o ho K hK;unfold lastS at ho;split at ho<;>cases ho
 rename_i l s hm;obtain⟨⟨hl,hp⟩,hK⟩:=hK;have hh:=jO hm hl;subst hh;have hK:K (.agg [.int .i64 s.k,.int .i64 s.a,.int .u64 s.o,.int .u64 s.w,.bool s.ok]) (memH (s)):=hK;refine aJ1 (aD (E:=E1) Tryz.checked.mixed (L:=fun _ _=>none) (n:=10) (aK (q:=K (.agg [.int .i64 s.5,.int .i64 s.6,.int .u64 s.7,.int .u64 s.8,.bool s.9]) [some (.cells [.int .i64 s.1,.int .i64 s.2,.slice 1 0 s.3.length 1,.int .i64 s.4,.int .i64 s.5,.int .i64 s.6,.int .u64 s.7,.int .u64 s.8,.bool s.9]),some (.ints (some .u64) s.3)]) (by kernel_rfl) ?_))
 exact hK
noncomputable def E2:=(((E1.addS 93 peekS ZF)).addS 46 lastS Y2)
def bA(xs:List Int)(a x:Int):List Int:=if 0<=a/\a<xs.length then xs.set a.toNat x else xs
theorem iM(xs:List Int)(a x:Int):(bA xs a x).length =xs.length:=by unfold bA;split<;>simp
theorem oD{xs:List Int}{a x:Int}(h:0<=a/\a<xs.length):bA xs a x=xs.set a.toNat x:=if_pos h
theorem nL{xs:List Int}{a x:Int}(h: ¬(0<=a/\a<xs.length)):bA xs a x=xs:=if_neg h
theorem fV{xs:List Int}{a:Int}(h: ¬(0<=a/\a<xs.length)):dM xs a=false:=by
 cases e:dM xs a with
 | false=>rfl
 | true=>exact(h (nD.1 e)).elim
theorem SX{xs:List Int}{a:Int}(h:0<=a/\a<xs.length):xs.set a.toNat (aE xs a)=xs:=by
 rw [oB h];apply List.ext_getElem?;intro i;rw [List.getElem?_set]
 by_cases hi:a.toNat=i
 ·subst hi;have:a.toNat<xs.length:=by omega
  simp [this]
 ·simp [hi]
def MS.loadd(s:MS)(a:Int):MS:=s.did 1 a (aE s.xs a) (dM s.xs a) s.xs
def MS.stored(s:MS)(a x:Int):MS:=s.did 2 a (bif dM s.xs a then x else 0) (dM s.xs a) (bA s.xs a x)
def bJ(xs:List Int)(a x:Int):Bool:=dM xs a&&ieq (aE xs a) x
def MS.cased(s:MS)(a x y:Int):MS:=s.did 3 a (bif dM s.xs a then y else 0) (bJ s.xs a x) (bif bJ s.xs a x then bA s.xs a y else s.xs)
def MS.added(s:MS)(a x:Int):MS:=s.did 4 a (bif dM s.xs a then IntKind.wrap .u64 (aE s.xs a+x)else 0) (dM s.xs a) (bA s.xs a (IntKind.wrap .u64 (aE s.xs a+x)))
theorem qO(s:MS)(k a w:Int)(ok:Bool)(xs:List Int)(h:xs.length=s.xs.length):memH (s.did k a w ok xs)=[some (.cells [.int .i64 s.t,.int .i64 s.n,.slice 1 0 s.xs.length 1,.int .i64 (s.c+1),.int .i64 k,.int .i64 a,.int .u64 (aE s.xs a),.int .u64 w,.bool ok]),some (.ints (some .u64) xs)]:=by
 unfold memH MS.did;simp only [h]
def loadS:aH Ob:=fun args h=>match args,nF h with
 | [.ptr 0 0,.int .i64 a],some (l,s)=>some (.pre (l=s.xs.length/\(0<=s.c/\s.c<=4611686018427387904)) (.ret (.int .u64 (aE s.xs a)) (memH (s.loadd a))))
 | _,_=>none
theorem load_ok:aH.ok E2.I Tryz.prog 129 loadS:=by
 intro args h o ho K hK;unfold loadS at ho;split at ho<;>cases ho
 rename_i a l s hm;obtain⟨⟨hl,hp⟩,hK⟩:=hK;have hh:=jO hm hl;subst hh;have hK:K (.int .u64 (aE s.xs a)) (memH (s.loadd a)):=hK;refine aJ1 (aD (E:=E2) Tryz.checked.mixed (L:=fun _ _=>none) (n:=10) (aK (q:=(lE' s.3/\True)/\bif ilt a 0 then K (.int .u64 (aE s.3 a)) [some (.cells [.int .i64 s.1,.int .i64 s.2,.slice 1 0 s.3.length 1,.int .i64 (W (s.4+1)),.int .i64 1,.int .i64 a,.int .u64 (aE s.3 a),.int .u64 (aE s.3 a),.bool false]),some (.ints (some .u64) s.3)]else bif ile (↑s.3.length:Int) a then K (.int .u64 (aE s.3 a)) [some (.cells [.int .i64 s.1,.int .i64 s.2,.slice 1 0 s.3.length 1,.int .i64 (W (s.4+1)),.int .i64 1,.int .i64 a,.int .u64 (aE s.3 a),.int .u64 (aE s.3 a),.bool false]),some (.ints (some .u64) s.3)]else((0:Int)<=a/\a<(↑s.3.length:Int))/\0+Int.toNat a*(1:Nat)<s.3.length/\K (.int .u64 (aE s.3 a)) [some (.cells [.int .i64 s.1,.int .i64 s.2,.slice 1 0 s.3.length 1,.int .i64 (W (s.4+1)),.int .i64 1,.int .i64 a,.int .u64 (aE s.3 a),.int .u64 (aE s.3 a),.bool true]),some (.ints (some .u64) (List.set s.3 (0+Int.toNat a*1) (aE s.3 a)))]) (by kernel_rfl) ?_))
 refine⟨⟨rfl,trivial⟩,?_⟩;have hc:IntKind.wrap .i64 (s.c+1)=s.c+1:=cH (by omega)
 simp only [W,WU,hc,vG];unfold MS.loadd at hK;rw [qO _ _ _ _ _ _ rfl]at hK;refine aJ (fun e1=>?_) (fun e1=>aJ (fun e2=>?_) (fun e2=>?_))
 ·rw [bI,dT']at e1;rw [fV (by omega)]at hK;exact hK
 ·rw [bZ,dT']at e2;rw [fV (by omega)]at hK;exact hK
 ·rw [bI,dF']at e1;rw [bZ,dF']at e2;refine⟨by omega,by omega,?_⟩
  rw [nD.2 (by omega)]at hK
  rw [SX (by omega)];exact hK
def storeS:aH Ob:=fun args h=>match args,nF h with
 | [.ptr 0 0,.int .i64 a,.int .u64 x],some (l,s)=>some (.pre (l=s.xs.length/\(0<=s.c/\s.c<=4611686018427387904)) (.ret (.tup []) (memH (s.stored a x))))
 | _,_=>none
theorem S4:aH.ok E2.I Tryz.prog 221 storeS:=by
 intro args h o ho K hK;unfold storeS at ho;split at ho<;>cases ho
 rename_i a x l s hm;obtain⟨⟨hl,hp⟩,hK⟩:=hK;have hh:=jO hm hl;subst hh;have hK:K (.tup []) (memH (s.stored a x)):=hK;refine aJ1 (aD (E:=E2) Tryz.checked.mixed (L:=fun _ _=>none) (n:=10) (aK (q:=(lE' s.3/\True)/\bif ilt a 0 then K (.tup []) [some (.cells [.int .i64 s.1,.int .i64 s.2,.slice 1 0 s.3.length 1,.int .i64 (W (s.4+1)),.int .i64 2,.int .i64 a,.int .u64 (aE s.3 a),.int .u64 (aE s.3 a),.bool false]),some (.ints (some .u64) s.3)]else bif ile (↑s.3.length:Int) a then K (.tup []) [some (.cells [.int .i64 s.1,.int .i64 s.2,.slice 1 0 s.3.length 1,.int .i64 (W (s.4+1)),.int .i64 2,.int .i64 a,.int .u64 (aE s.3 a),.int .u64 (aE s.3 a),.bool false]),some (.ints (some .u64) s.3)]else((0:Int)<=a/\a<(↑s.3.length:Int))/\0+Int.toNat a*(1:Nat)<s.3.length/\K (.tup []) [some (.cells [.int .i64 s.1,.int .i64 s.2,.slice 1 0 s.3.length 1,.int .i64 (W (s.4+1)),.int .i64 2,.int .i64 a,.int .u64 (aE s.3 a),.int .u64 x,.bool true]),some (.ints (some .u64) (List.set s.3 (0+Int.toNat a*1) x))]) (by kernel_rfl) ?_))
 refine⟨⟨rfl,trivial⟩,?_⟩;have hc:IntKind.wrap .i64 (s.c+1)=s.c+1:=cH (by omega)
 simp only [W,WU,hc,vG];unfold MS.stored at hK;rw [qO _ _ _ _ _ _ (iM _ _ _)]at hK;refine aJ (fun e1=>?_) (fun e1=>aJ (fun e2=>?_) (fun e2=>?_))
 ·rw [bI,dT']at e1;rw [fV (by omega),nL (by omega)]at hK
  rw [fJ (by omega)]at hK⊢;exact hK
 ·rw [bZ,dT']at e2;rw [fV (by omega),nL (by omega)]at hK
  rw [fJ (by omega)]at hK⊢;exact hK
 ·rw [bI,dF']at e1;rw [bZ,dF']at e2;refine⟨by omega,by omega,?_⟩
  rw [nD.2 (by omega),oD (by omega)]at hK
  exact hK
def casS:aH Ob:=fun args h=>match args,nF h with
 | [.ptr 0 0,.int .i64 a,.int .u64 x,.int .u64 y],some (l,s)=>some (.pre (l=s.xs.length/\(0<=s.c/\s.c<=4611686018427387904)) (.ret (.bool (bJ s.xs a x)) (memH (s.cased a x y))))
 | _,_=>none
theorem aCb:aH.ok E2.I Tryz.prog 217 casS:=by
 intro args h o ho K hK;unfold casS at ho;split at ho<;>cases ho
 rename_i a x y l s hm;obtain⟨⟨hl,hp⟩,hK⟩:=hK;have hh:=jO hm hl;subst hh;have hK:K (.bool (bJ s.xs a x)) (memH (s.cased a x y)):=hK;refine aJ1 (aD (E:=E2) Tryz.checked.mixed (L:=fun _ _=>none) (n:=10) (aK (q:=(lE' s.3/\True)/\bif ilt a 0 then K (.bool false) [some (.cells [.int .i64 s.1,.int .i64 s.2,.slice 1 0 s.3.length 1,.int .i64 (W (s.4+1)),.int .i64 3,.int .i64 a,.int .u64 (aE s.3 a),.int .u64 (aE s.3 a),.bool false]),some (.ints (some .u64) s.3)]else bif ile (↑s.3.length:Int) a then K (.bool false) [some (.cells [.int .i64 s.1,.int .i64 s.2,.slice 1 0 s.3.length 1,.int .i64 (W (s.4+1)),.int .i64 3,.int .i64 a,.int .u64 (aE s.3 a),.int .u64 (aE s.3 a),.bool false]),some (.ints (some .u64) s.3)]else bif ieq (aE s.3 a) x then((0:Int)<=a/\a<(↑s.3.length:Int))/\0+Int.toNat a*(1:Nat)<s.3.length/\K (.bool (ieq (aE s.3 a) x)) [some (.cells [.int .i64 s.1,.int .i64 s.2,.slice 1 0 s.3.length 1,.int .i64 (W (s.4+1)),.int .i64 3,.int .i64 a,.int .u64 (aE s.3 a),.int .u64 y,.bool (ieq (aE s.3 a) x)]),some (.ints (some .u64) (List.set s.3 (0+Int.toNat a*1) y))]else K (.bool (ieq (aE s.3 a) x)) [some (.cells [.int .i64 s.1,.int .i64 s.2,.slice 1 0 s.3.length 1,.int .i64 (W (s.4+1)),.int .i64 3,.int .i64 a,.int .u64 (aE s.3 a),.int .u64 y,.bool (ieq (aE s.3 a) x)]),some (.ints (some .u64) s.3)]) (by kernel_rfl) ?_))
 refine⟨⟨rfl,trivial⟩,?_⟩;have hc:IntKind.wrap .i64 (s.c+1)=s.c+1:=cH (by omega)
 simp only [W,WU,hc,vG];unfold MS.cased at hK;rw [qO _ _ _ _ _ _ (by cases bJ s.xs a x<;>first | exact iM _ _ _ | rfl)]at hK
 unfold bJ at hK;refine aJ (fun e1=>?_) (fun e1=>aJ (fun e2=>?_) (fun e2=>?_))
 ·rw [bI,dT']at e1;rw [fV (by omega)]at hK
  rw [fJ (by omega)]at hK⊢;exact hK
 ·rw [bZ,dT']at e2;rw [fV (by omega)]at hK
  rw [fJ (by omega)]at hK⊢;exact hK
 ·rw [bI,dF']at e1;rw [bZ,dF']at e2;rw [nD.2 (by omega),oD (by omega)]at hK
  simp only [Bool.true_and,cond_true]at hK;refine aJ (fun e3=>⟨by omega,by omega,?_⟩) (fun e3=>?_)
  ·rw [e3]at hK⊢;exact hK
  ·rw [e3]at hK⊢;exact hK
def addS:aH Ob:=fun args h=>match args,nF h with
 | [.ptr 0 0,.int .i64 a,.int .u64 x],some (l,s)=>some (.pre (l=s.xs.length/\(0<=s.c/\s.c<=4611686018427387904)) (.ret (.int .u64 (aE s.xs a)) (memH (s.added a x))))
 | _,_=>none
theorem aBK:aH.ok E2.I Tryz.prog 222 addS:=by
 intro args h o ho K hK;unfold addS at ho;split at ho<;>cases ho
 rename_i a x l s hm;obtain⟨⟨hl,hp⟩,hK⟩:=hK;have hh:=jO hm hl;subst hh;have hK:K (.int .u64 (aE s.xs a)) (memH (s.added a x)):=hK;refine aJ1 (aD (E:=E2) Tryz.checked.mixed (L:=fun _ _=>none) (n:=10) (aK (q:=(lE' s.3/\True)/\bif ilt a 0 then K (.int .u64 (aE s.3 a)) [some (.cells [.int .i64 s.1,.int .i64 s.2,.slice 1 0 s.3.length 1,.int .i64 (W (s.4+1)),.int .i64 4,.int .i64 a,.int .u64 (aE s.3 a),.int .u64 (aE s.3 a),.bool false]),some (.ints (some .u64) s.3)]else bif ile (↑s.3.length:Int) a then K (.int .u64 (aE s.3 a)) [some (.cells [.int .i64 s.1,.int .i64 s.2,.slice 1 0 s.3.length 1,.int .i64 (W (s.4+1)),.int .i64 4,.int .i64 a,.int .u64 (aE s.3 a),.int .u64 (aE s.3 a),.bool false]),some (.ints (some .u64) s.3)]else((0:Int)<=a/\a<(↑s.3.length:Int))/\0+Int.toNat a*(1:Nat)<s.3.length/\K (.int .u64 (aE s.3 a)) [some (.cells [.int .i64 s.1,.int .i64 s.2,.slice 1 0 s.3.length 1,.int .i64 (W (s.4+1)),.int .i64 4,.int .i64 a,.int .u64 (aE s.3 a),.int .u64 (WU (aE s.3 a+x)),.bool true]),some (.ints (some .u64) (List.set s.3 (0+Int.toNat a*1) (WU (aE s.3 a+x))))]) (by kernel_rfl) ?_))
 refine⟨⟨rfl,trivial⟩,?_⟩;have hc:IntKind.wrap .i64 (s.c+1)=s.c+1:=cH (by omega)
 simp only [W,WU,hc,vG];unfold MS.added at hK;rw [qO _ _ _ _ _ _ (iM _ _ _)]at hK;refine aJ (fun e1=>?_) (fun e1=>aJ (fun e2=>?_) (fun e2=>?_))
 ·rw [bI,dT']at e1;rw [fV (by omega),nL (by omega)]at hK
  rw [fJ (by omega)]at hK⊢;exact hK
 ·rw [bZ,dT']at e2;rw [fV (by omega),nL (by omega)]at hK
  rw [fJ (by omega)]at hK⊢;exact hK
 ·rw [bI,dF']at e1;rw [bZ,dF']at e2;refine⟨by omega,by omega,?_⟩
  rw [nD.2 (by omega),oD (by omega)]at hK
  exact hK
noncomputable def E3:=(((E2.addS 129 loadS load_ok).addS 221 storeS S4).addS 217 casS aCb).addS 222 addS aBK
abbrev dU(s:MS)(a:Int):MS:=⟨s.t,s.n,s.xs,s.c+1,1,a,aE s.xs a,aE s.xs a,dM s.xs a⟩
abbrev NC(s:MS)(k a v:Int):MS:=⟨s.t,s.n,bA s.xs a v,s.c+1,k,a,aE s.xs a,bif dM s.xs a then v else 0,dM s.xs a⟩
abbrev pQ(s:MS)(a o v:Int):MS:=⟨s.t,s.n,bif bJ s.xs a o then bA s.xs a v else s.xs,s.c+1,3,a,aE s.xs a,bif dM s.xs a then v else 0,bJ s.xs a o⟩
def aO(t n me:Int):Int:=if t<1 then 1 else 1+Int.tdiv (me*n) t
theorem Z9{x t:Int}(h:0<=x)(ht:1<=t):0<=Int.tdiv x t/\Int.tdiv x t<=x:=by
 rw [Int.tdiv_eq_ediv_of_nonneg h];exact⟨Int.ediv_nonneg h (by omega),Int.ediv_le_self t h⟩
def first0S:aH Ob:=fun args h=>match args,h with
 | [.ptr 0 0],some (.cells (.int .i64 t:: .int .i64 n:: .int .i64 me::tl))::rest=>some (.pre ((0<=me/\me<=100000)/\(0<=n/\n<=100000)) (.ret (.int .i64 (aO t n me)) (some (.cells (.int .i64 t:: .int .i64 n:: .int .i64 me::tl))::rest)))
 | _,_=>none
theorem K5:aH.ok E3.I Tryz.prog 210 first0S:=by
 intro args h o ho K hK;unfold first0S at ho;split at ho<;>cases ho
 rename_i t n me tl rest;obtain⟨hp,hK⟩:=hK;have hK:K (.int .i64 (aO t n me)) (some (.cells (.int .i64 t:: .int .i64 n:: .int .i64 me::tl))::rest):=hK;refine(aD (E:=E3) Tryz.checked.mixed (L:=fun _ _=>none) (n:=10) (aK (q:=bif ilt t 1 then K (.int .i64 1) (some (.cells (.int .i64 t:: .int .i64 n:: .int .i64 me::tl))::rest)else t≠(0:Int)/\K (.int .i64 (W (1+W (Int.tdiv (W (me*n)) t)))) (some (.cells (.int .i64 t:: .int .i64 n:: .int .i64 me::tl))::rest)) (by kernel_rfl) ?_))
 obtain⟨⟨h1,h2⟩,h3,h4⟩:=hp;have hm:0<=me*n/\me*n<=100000*100000:=⟨Int.mul_nonneg h1 h3,Int.mul_le_mul h2 h4 h3 (by omega)⟩
 refine aJ (fun e=>?_) (fun e=>?_)
 ·rw [bI,dT']at e;unfold aO at hK;rw [if_pos e]at hK;exact hK
 ·rw [bI,dF']at e;refine⟨by omega,?_⟩
  unfold aO at hK;rw [if_neg e]at hK;have:=Z9 (x:=me*n) (t:=t) hm.1 (by omega)
  simp(disch:=omega) only [W,cH]
  exact hK
def FQ:bE Ob:=fun args h=>match args,h with
 | [.ptr 0 0],some (.cells (.int .i64 t:: .int .i64 n:: .int .i64 me::tl))::rest=>some (((0<=me/\me<=100000)/\(0<=n/\n<=100000)),.int .i64 (aO t n me))
 | _,_=>none
theorem PY:aH.ok E3.I Tryz.prog 210 FQ.spec:=by
 intro args h o ho;unfold bE.spec at ho;split at ho
 case h_2=>cases ho
 rename_i p v hv;unfold FQ at hv;split at hv
 case h_2=>cases hv
 simp only [sI',pI']at hv;obtain⟨rfl,rfl⟩:=hv;exact K5 _ _ o ho
def lifeNewS:aH Ob:=fun args h=>match args,h with
 | [.agg [.int .i64 t,.int .i64 n],.int .i64 a],[]=>some (.pre (True) (.ret (.ptr 0 0) ([some (.cells [.int .i64 t,.int .i64 n,.int .i64 0,.int .i64 (bif bC n a then a else 1),.int .i64 n,.int .u64 0,.bool false])])))
 | _,_=>none
theorem F7:aH.ok E3.I Tryz.prog 209 lifeNewS:=by
 intro args h o ho K hK;unfold lifeNewS at ho;split at ho<;>cases ho
 rename_i t n a;obtain⟨hp,hK⟩:=hK;have hK:K (.ptr 0 0) ([some (.cells [.int .i64 t,.int .i64 n,.int .i64 0,.int .i64 (bif bC n a then a else 1),.int .i64 n,.int .u64 0,.bool false])]):=hK;refine aJ1 (aD (E:=E3) Tryz.checked.mixed (L:=fun _ _=>none) (n:=10) (aK (q:=True/\bif !bC n a then K (.ptr 0 0) [some (.cells [.int .i64 t,.int .i64 n,.int .i64 0,.int .i64 1,.int .i64 n,.int .u64 0,.bool false])]else K (.ptr 0 0) [some (.cells [.int .i64 t,.int .i64 n,.int .i64 0,.int .i64 a,.int .i64 n,.int .u64 0,.bool false])]) (by kernel_rfl) ?_))
 refine⟨trivial,aJ (fun e=>?_) (fun e=>?_)⟩
 ·have e':bC n a=false:=by simpa using e
  rw [e']at hK;exact hK
 ·have e':bC n a=true:=by simpa using e
  rw [e']at hK;exact hK
noncomputable def E4a:=E3.addS 209 lifeNewS F7
noncomputable def E4:=E4a.addR 210 FQ PY
noncomputable def LL:FuncId->Nat->Option (mM Ob):=fun _ _=>some (.rounds 12)
noncomputable def E5:=E4
abbrev iI'(l:List Int):Option (aG Ob):=some (.ints (some .i64) l)
abbrev cE'(l:List AVal):Option (aG Ob):=some (.cells l)
theorem cM'{E:Env Ob Tryz.prog}{f:FuncId}{args:List AVal}{h:aC Ob}{K:AVal->aC Ob->Prop}{q:Prop}(e:H3 E LL 10 f args h K=q)(hq:q):aA E.I Tryz.prog f args h K:=aD (E:=E) Tryz.checked.mixed (L:=LL) (n:=10) (aK e hq)
abbrev cT':=aA (A:=Ob) (obI tbl) Tryz.prog
abbrev sT':=aH.ok (A:=Ob) (obI tbl) Tryz.prog
def cloneS:aH Ob:=fun args h=>match args,h with
 | [.slice 0 0 n 1],[some (.ints (some .i64) xs)]=>some (.pre (n=xs.length/\n<=4294967296) (.ret (.slice 1 0 xs.length 1) [some (.ints (some .i64) xs),some (.ints (some .i64) xs)]))
 | _,_=>none
theorem OW:aH.ok E5.I Tryz.prog 90 cloneS:=by
 intro args h o ho K hK;unfold cloneS at ho;split at ho<;>cases ho
 rename_i n xs;obtain⟨⟨rfl,hp⟩,hK⟩:=hK;have hK:K (.slice 1 0 xs.length 1) [some (.ints (some .i64) xs),some (.ints (some .i64) xs)]:=hK;refine aJ1 (aKN (cs:=[(.slot 0,.ints (some .i64))]) (cM' (E:=E5) (q:= ∀(b:Bool),(b=true->xs.length=0)->bif b then K (.slice 1 0 0 1) [some (.ints (some .i64) xs),some (.ints (some .i64) [])]else(0+xs.length<=xs.length/\xs.length<=(4294967296:Nat))/\K (.slice 1 0 xs.length 1) [some (.ints (some .i64) xs),some (.ints (some .i64) (List.take xs.length (List.drop 0 xs)))]) (by kernel_rfl) ?_))
 intro b hb;refine aJ (fun e=>?_) (fun e=>⟨⟨by omega,by omega⟩,?_⟩)
 ·have h0:=List.length_eq_zero_iff.1 (hb e);subst h0;exact hK
 ·simpa using hK
def dY(xs ys:List Int):Bool:=decide (xs=ys)
theorem pM{xs ys:List Int} :dY xs ys=true↔xs=ys:=by unfold dY;exact decide_eq_true_iff
structure okI (xs ys:List Int) (i:Nat):Prop where
 h1:i<=xs.length
 h2:xs.length=ys.length
 h3:xs.take i=ys.take i
def HI(xs ys:List Int):Hint Ob:= {X:=Nat,st:=fun i=>([.slice 0 0 xs.length 1,.slice 1 0 ys.length 1,.O,.O,.O,.int .i64 (i:Int)]++List.replicate 20 .O,[some (.ints (some .i64) xs),some (.ints (some .i64) ys)]),ok:=okI xs ys,mu:=fun i=>xs.length - i,keep:=[0,1,5] }
def intsS0:aH Ob:=fun args h=>match args,h with
 | [.slice 0 0 n 1,.slice 1 0 m 1],[some (.ints (some .i64) xs),some (.ints (some .i64) ys)]=>some (.pre ((n=xs.length/\m=ys.length)/\n<=4294967296) (.ret (.bool (dY xs ys)) [some (.ints (some .i64) xs),some (.ints (some .i64) ys)]))
 | _,_=>none
theorem QU:aH.ok E5.I Tryz.prog 58 intsS0:=by
 intro args h o ho K hK;unfold intsS0 at ho;split at ho<;>cases ho
 rename_i n m xs ys;obtain⟨⟨⟨rfl,rfl⟩,hp⟩,hK⟩:=hK;have hK:K (.bool (dY xs ys)) [some (.ints (some .i64) xs),some (.ints (some .i64) ys)]:=hK;refine(aD (E:=E5) Tryz.checked.mixed (L:=fun _ _=>some (.states (HI xs ys))) (n:=10) (aK (q:=bif !ieq (↑xs.length:Int) (↑ys.length:Int)then K (.bool false) [some (.ints (some .i64) xs),some (.ints (some .i64) ys)]else dJ (HI xs ys) (Hint.ok (HI xs ys)) (.slice 0 0 xs.length 1::.slice 1 0 ys.length 1::.O::.O::.O::.int .i64 0::(tO' 20 [])) [some (.ints (some .i64) xs),some (.ints (some .i64) ys)]/\ ∀(x:Nat),okI xs ys x->bif ilt (↑x:Int) (↑xs.length:Int)then((0:Int)<=(↑x:Int)/\(↑x:Int)<(↑xs.length:Int))/\0+Int.toNat (↑x:Int)*(1:Nat)<xs.length/\((0:Int)<=(↑x:Int)/\(↑x:Int)<(↑ys.length:Int))/\0+Int.toNat (↑x:Int)*(1:Nat)<ys.length/\bif !ieq (List.getD xs (0+Int.toNat (↑x:Int)*1) 0) (List.getD ys (0+Int.toNat (↑x:Int)*1) 0)then K (.bool false) [some (.ints (some .i64) xs),some (.ints (some .i64) ys)]else dJ (HI xs ys) (fun x'=>Hint.ok (HI xs ys) x'/\Hint.mu (HI xs ys) x'<Hint.mu (HI xs ys) x) (.slice 0 0 xs.length 1::.slice 1 0 ys.length 1::.O::.O::.O::.int .i64 (W ((↑x:Int)+1))::(tO' 20 [])) [some (.ints (some .i64) xs),some (.ints (some .i64) ys)]else K (.bool true) [some (.ints (some .i64) xs),some (.ints (some .i64) ys)]) (by kernel_rfl) ?_))
 have hS:dY xs ys=decide (xs=ys):=rfl;refine aJ (fun e=>?_) (fun e=>⟨aR (H:=HI xs ys) (0:Nat) rfl ⟨Nat.zero_le _,?_,rfl⟩,?_⟩)
 ·rw [cI]at e;have:xs≠ys:=by rintro rfl;simp at e
  rw [hS,decide_eq_false this]at hK;exact hK
 ·rw [cI]at e;simp at e;omega
 ·rintro i ⟨h1,h2,h3⟩;refine aJ (fun e1=>?_) (fun e1=>?_)
  ·rw [bI,dT']at e1;have hi:i<xs.length:=by omega
   have e2:0+(i:Int).toNat *1=i:=by omega
   rw [e2];refine⟨by omega,hi,by omega,by omega,aJ (fun e3=>?_) (fun e3=>?_)⟩
   ·rw [cI]at e3;have:xs≠ys:=by rintro rfl;simp at e3
    rw [hS,decide_eq_false this]at hK;exact hK
   ·rw [cI]at e3;have e3:xs.getD i 0=ys.getD i 0:=by simpa using e3
    have e4:IntKind.wrap .i64 ((i:Int)+1)=((i+1:Nat):Int):=by rw [cH (by omega)];rfl
    refine aR (H:=HI xs ys) (i+1:Nat) (by simp only [W,e4]<;>rfl) ⟨⟨hi,h2,?_⟩,by show xs.length - (i+1)<xs.length - i;omega⟩
    have hj:i<ys.length:=by omega
    rw [gD',gE' hi,gD',gE' hj]at e3;rw [List.take_succ_eq_append_getElem hi,List.take_succ_eq_append_getElem hj,h3];have e5:xs[i]=ys[i]:=by simpa using e3
    rw [e5]
  ·rw [bI,dF']at e1
   have:xs=ys:=by
    rw [List.take_of_length_le (by omega),List.take_of_length_le (by omega)]at h3;exact h3
   rw [hS,decide_eq_true this]at hK;exact hK
def CM:bE Ob:=fun args h=>match args,h with
 | [.slice 0 0 n 1,.slice 1 0 m 1],[some (.ints (some .i64) xs),some (.ints (some .i64) ys)]=>some ((n=xs.length/\m=ys.length)/\n<=4294967296,.bool (dY xs ys))
 | _,_=>none
theorem y5:aH.ok E5.I Tryz.prog 58 CM.spec:=by
 intro args h o ho;unfold bE.spec at ho;split at ho
 case h_2=>cases ho
 rename_i p v hv;unfold CM at hv;split at hv
 case h_2=>cases hv
 simp only [sI',pI']at hv;obtain⟨rfl,rfl⟩:=hv;exact QU _ _ o ho
noncomputable def E6:=(E5.addS 90 cloneS OW).addR 58 CM y5
def storeNewS:aH Ob:=fun args h=>match args,h with
 | [.agg [.int .i64 t,.int .i64 n],.int .i64 me],[]=>some (.ret (.ptr 0 0) [some (.cells [.int .i64 t,.int .i64 n,.int .i64 me,.int .i64 0,.raw (.slice none 0 0)])])
 | _,_=>none
theorem DK:aH.ok E6.I Tryz.prog 101 storeNewS:=by
 intro args h o ho K hK;unfold storeNewS at ho;split at ho<;>cases ho
 rename_i t n me;have hK:K (.ptr 0 0) [some (.cells [.int .i64 t,.int .i64 n,.int .i64 me,.int .i64 0,.raw (.slice none 0 0)])]:=hK;exact aJ1 (cM' (E:=E6) (by kernel_rfl) hK)
def lJ(sp:Int)(xs:List Int):List Int:=bif ieq sp 0 then xs else sp::xs
def heldS:aH Ob:=fun args h=>match args,h with
 | [.ptr 0 0],[some (.cells [.int .i64 t,.int .i64 n,.int .i64 me,.int .i64 sp,.slice 1 0 k 1]),some (.ints (some .i64) xs)]=>some (.pre (k=xs.length/\k<=1000000) (.ret (.slice 2 0 (lJ sp xs).length 1) [some (.cells [.int .i64 t,.int .i64 n,.int .i64 me,.int .i64 sp,.slice 1 0 k 1]),some (.ints (some .i64) xs),some (.ints (some .i64) (lJ sp xs))]))
 | _,_=>none
theorem YN:aH.ok E6.I Tryz.prog 106 heldS:=by
 intro args h o ho K hK;unfold heldS at ho;split at ho<;>cases ho
 rename_i t n me sp k xs;obtain⟨⟨rfl,hp⟩,hK⟩:=hK;have hK:K (.slice 2 0 (lJ sp xs).length 1) [some (.cells [.int .i64 t,.int .i64 n,.int .i64 me,.int .i64 sp,.slice 1 0 xs.length 1]),some (.ints (some .i64) xs),some (.ints (some .i64) (lJ sp xs))]:=hK;refine aJ1 (aKN (cs:=[(.slot 0,.ints (some .i64))]) (cM' (E:=E6) (q:=bif ieq sp 0 then(lE' xs/\xs.length<=(4294967296:Nat))/\K (.slice 2 0 xs.length 1) [some (.cells [.int .i64 t,.int .i64 n,.int .i64 me,.int .i64 sp,.slice 1 0 xs.length 1]),some (.ints (some .i64) xs),some (.ints (some .i64) xs)]else(0+xs.length<=xs.length/\1+xs.length<=(4294967296:Nat))/\K (.slice 2 0 (1+xs.length) 1) [some (.cells [.int .i64 t,.int .i64 n,.int .i64 me,.int .i64 sp,.slice 1 0 xs.length 1]),some (.ints (some .i64) xs),some (.ints (some .i64) ([sp]++List.take xs.length (List.drop 0 xs)))]) (by kernel_rfl) ?_))
 unfold lJ at hK;refine aJ (fun e=>⟨⟨rfl,by omega⟩,?_⟩) (fun e=>⟨⟨by omega,by omega⟩,?_⟩)
 ·rw [e]at hK;exact hK
 ·rw [e]at hK;simp only [cond_false]at hK;have e1:1+xs.length=(sp::xs).length :=by simp;omega
  have e2: [sp]++List.take xs.length (List.drop 0 xs)=sp::xs:=by simp
  rw [e1,e2];exact hK
def fullS0:aH Ob:=fun args h=>match args,h with
 | [.ptr 0 0],some (.cells [.int .i64 t,.int .i64 n,.int .i64 me,.int .i64 sp,.slice 1 0 k 1])::rest=>some (.pre (0<=t/\t<=100000) (.ret (.bool (ile (4*t) (k:Int))) (some (.cells [.int .i64 t,.int .i64 n,.int .i64 me,.int .i64 sp,.slice 1 0 k 1])::rest)))
 | _,_=>none
theorem P3:aH.ok E6.I Tryz.prog 168 fullS0:=by
 intro args h o ho K hK;unfold fullS0 at ho;split at ho<;>cases ho
 rename_i t n me sp k rest;obtain⟨hp,hK⟩:=hK;have hK:K (.bool (ile (4*t) (k:Int))) (some (.cells [.int .i64 t,.int .i64 n,.int .i64 me,.int .i64 sp,.slice 1 0 k 1])::rest):=hK;refine(cM' (E:=E6) (q:=K (.bool (ile (W (4*t)) (↑k:Int))) (some (.cells [.int .i64 t,.int .i64 n,.int .i64 me,.int .i64 sp,.slice 1 0 k 1])::rest)) (by kernel_rfl) ?_)
 simp(disch:=omega) only [W,cH]
 exact hK
def P4:bE Ob:=fun args h=>match args,h with
 | [.ptr 0 0],some (.cells [.int .i64 t,.int .i64 n,.int .i64 me,.int .i64 sp,.slice 1 0 k 1])::rest=>some (0<=t/\t<=100000,.bool (ile (4*t) (k:Int)))
 | _,_=>none
theorem XQ:aH.ok E6.I Tryz.prog 168 P4.spec:=by
 intro args h o ho;unfold bE.spec at ho;split at ho
 case h_2=>cases ho
 rename_i p v hv;unfold P4 at hv;split at hv
 case h_2=>cases hv
 simp only [sI',pI']at hv;obtain⟨rfl,rfl⟩:=hv;exact P3 _ _ o ho
noncomputable def E7:=((E6.addS 101 storeNewS DK).addS 106 heldS YN).addR 168 P4 XQ
def eL(s:Int):List Int:=bif ieq s 1||ieq s 2 then [1,2,3]else bif ieq s 3||ieq s 4 then [4,5]else []
def kindsS:aH Ob:=fun args h=>match args,h with
 | [.int .i64 s],[]=>some (.ret (.slice 0 0 (eL s).length 1) [some (.ints (some .i64) (eL s))])
 | _,_=>none
theorem QY:aH.ok E7.I Tryz.prog 139 kindsS:=by
 intro args h o ho K hK;unfold kindsS at ho;split at ho<;>cases ho
 rename_i s;have hK:K (.slice 0 0 (eL s).length 1) [some (.ints (some .i64) (eL s))]:=hK;refine aJ1 (aKN (cs:=[(.slot 0,.ints (some .i64))]) (cM' (E:=E7) (q:=bif ieq s 1 then K (.slice 0 0 3 1) [some (.ints (some .i64) [1,2,3])]else bif ieq s 2 then K (.slice 0 0 3 1) [some (.ints (some .i64) [1,2,3])]else bif ieq s 3 then K (.slice 0 0 2 1) [some (.ints (some .i64) [4,5])]else bif ieq s 4 then K (.slice 0 0 2 1) [some (.ints (some .i64) [4,5])]else K (.slice 0 0 0 1) [some (.ints (some .i64) [])]) (by kernel_rfl) ?_))
 unfold eL at hK;cases e1:ieq s 1<;>cases e2:ieq s 2<;>cases e3:ieq s 3<;>cases e4:ieq s 4<;>simp only [e1,e2,e3,e4,Bool.or_true,Bool.or_false,Bool.true_or,Bool.false_or,cond_true,cond_false]at hK⊢ <;>exact hK
noncomputable def E8:=E7.addS 139 kindsS QY
theorem qK(a:Int):ieq a a=true:=by rw [cI];simp
def hasB(xs:List Int)(n:Int):Bool:=decide (n∈xs)
theorem jL{xs:List Int}{n:Int} :hasB xs n=true↔n∈xs:=by unfold hasB;exact decide_eq_true_iff
structure okC (xs:List Int) (n:Int) (i:Nat):Prop where
 h1:i<=xs.length
 h2:n∉xs.take i
def HC(xs:List Int)(n:Int):Hint Ob:= {X:=Nat,st:=fun i=>([.slice 0 0 xs.length 1,.int .i64 n,.O,.O,.O,.O,.O,.int .i64 (xs.length:Int),.int .i64 (i:Int)]++List.replicate 10 .O,[some (.ints (some .i64) xs)]),ok:=okC xs n,mu:=fun i=>xs.length - i,keep:=[0,1,7,8] }
def hasS0:aH Ob:=fun args h=>match args,h with
 | [.slice 0 0 k 1,.int .i64 n],[some (.ints (some .i64) xs)]=>some (.pre (k=xs.length/\k<=4294967296) (.ret (.bool (hasB xs n)) [some (.ints (some .i64) xs)]))
 | _,_=>none
theorem XS:aH.ok E8.I Tryz.prog 138 hasS0:=by
 intro args h o ho K hK;unfold hasS0 at ho;split at ho<;>cases ho
 rename_i k n xs;obtain⟨⟨rfl,hp⟩,hK⟩:=hK;have hK:K (.bool (hasB xs n)) [some (.ints (some .i64) xs)]:=hK;refine(aD (E:=E8) Tryz.checked.mixed (L:=fun _ _=>some (.states (HC xs n))) (n:=10) (aK (q:=dJ (HC xs n) (Hint.ok (HC xs n)) [.slice 0 0 xs.length 1,.int .i64 n,.O,.O,.O,.O,.O,.int .i64 (↑xs.length:Int),.int .i64 0,.O,.O,.O,.O,.O,.O,.O,.O,.O,.O] [some (.ints (some .i64) xs)]/\ ∀(x:Nat),okC xs n x->bif ilt (↑x:Int) (↑xs.length:Int)then((0:Int)<=(↑x:Int)/\(↑x:Int)<(↑xs.length:Int))/\0+Int.toNat (↑x:Int)*(1:Nat)<xs.length/\bif ieq n (List.getD xs (0+Int.toNat (↑x:Int)*1) 0)then K (.bool (ile 0 (↑x:Int))) [some (.ints (some .i64) xs)]else dJ (HC xs n) (fun x'=>Hint.ok (HC xs n) x'/\Hint.mu (HC xs n) x'<Hint.mu (HC xs n) x) [.slice 0 0 xs.length 1,.int .i64 n,.O,.O,.O,.O,.O,.int .i64 (↑xs.length:Int),.int .i64 (W ((↑x:Int)+1)),.O,.O,.O,.O,.O,.O,.O,.O,.O,.O] [some (.ints (some .i64) xs)]else K (.bool false) [some (.ints (some .i64) xs)]) (by kernel_rfl) ?_))
 have hS:hasB xs n=decide (n∈xs):=rfl;refine⟨aR (H:=HC xs n) (0:Nat) rfl ⟨Nat.zero_le _,by simp⟩,?_⟩
 rintro i ⟨h1,h2⟩;refine aJ (fun e1=>?_) (fun e1=>?_)
 ·rw [bI,dT']at e1;have hi:i<xs.length:=by omega
  have e2:0+(i:Int).toNat *1=i:=by omega
  rw [e2];have e4:IntKind.wrap .i64 ((i:Int)+1)=((i+1:Nat):Int):=by rw [cH (by omega)];rfl
  have hg:xs.getD i 0=xs[i]:=by rw [gD',gE' hi];rfl
  refine⟨by omega,hi,aJ (fun e3=>?_) (fun e3=>?_)⟩
  ·rw [cI,hg]at e3;have e3:n=xs[i]:=by simpa using e3
   have hm:n∈xs:=by rw [e3];exact List.getElem_mem hi
   have h0:ile 0 (i:Int)=true:=by rw [bZ,dT'];omega
   rw [hS,decide_eq_true hm]at hK
   first | (rw [h0];exact hK) | exact hK
  ·rw [cI,hg]at e3;have e3: ¬n=xs[i]:=by simpa using e3
   refine aR (H:=HC xs n) (i+1:Nat) (by simp only [W,e4]<;>rfl) ⟨⟨hi,?_⟩,by show xs.length - (i+1)<xs.length - i;omega⟩
   rw [List.take_succ_eq_append_getElem hi];intro hm;rcases List.mem_append.1 hm with h | h
   ·exact h2 h
   ·exact e3 (by simpa using h)
 ·rw [bI,dF']at e1;rw [List.take_of_length_le (by omega)]at h2
  rw [hS,decide_eq_false h2]at hK;exact hK
def XU:bE Ob:=fun args h=>match args,h with
 | [.slice 0 0 k 1,.int .i64 n],[some (.ints (some .i64) xs)]=>some (k=xs.length/\k<=4294967296,.bool (hasB xs n))
 | _,_=>none
theorem P9:aH.ok E8.I Tryz.prog 138 XU.spec:=by
 intro args h o ho;unfold bE.spec at ho;split at ho
 case h_2=>cases ho
 rename_i p v hv;unfold XU at hv;split at hv
 case h_2=>cases hv
 simp only [sI',pI']at hv;obtain⟨rfl,rfl⟩:=hv;exact XS _ _ o ho
noncomputable def E9:=E8.addR 138 XU P9
theorem F0(s:Int):(eL s).length <=3:=by
 unfold eL;cases (ieq s 1||ieq s 2)<;>cases (ieq s 3||ieq s 4)<;>simp
def bR(s k y:Int):Bool:=hasB (eL s) k&&(ile 0 y&&ile y (bif ieq k 5 then 0 else 999))
def G7:bE Ob:=fun args h=>match args,h with
 | [.int .i64 s,.agg [.int .i64 k,.int .i64 y]],[]=>some (True,.bool (bR s k y))
 | _,_=>none
theorem SQ:aH.ok E9.I Tryz.prog 117 G7.spec:=by
 intro args h o ho K hK;unfold bE.spec at ho;split at ho
 case h_2=>cases ho
 rename_i p v hv;unfold G7 at hv;split at hv
 case h_2=>cases hv
 rename_i s k y;simp only [sI',pI']at hv;obtain⟨rfl,rfl⟩:=hv;simp only [sI']at ho;subst ho;obtain⟨_,hK⟩:=hK;have hK:K (.bool (bR s k y)) []:=hK;refine aJ1 (cM' (E:=E9) (q:=bif ieq k 5 then(lE' (eL s)/\List.length (eL s)<=(4294967296:Nat))/\bif hasB (eL s) k then bif ile 0 y then K (.bool (ile y 0)) []else K (.bool false) []else K (.bool false) []else(lE' (eL s)/\List.length (eL s)<=(4294967296:Nat))/\bif hasB (eL s) k then bif ile 0 y then K (.bool (ile y 999)) []else K (.bool false) []else K (.bool false) []) (by kernel_rfl) ?_)
 have hl:=F0 s;unfold bR at hK
 refine aJ (fun e1=>⟨⟨rfl,by omega⟩,aJ (fun e2=>aJ (fun e3=>?_) (fun e3=>?_)) (fun e2=>?_)⟩) (fun e1=>⟨⟨rfl,by omega⟩,aJ (fun e2=>aJ (fun e3=>?_) (fun e3=>?_)) (fun e2=>?_)⟩)<;>
  (simp only [e1,e2,cond_true,cond_false,Bool.true_and,Bool.false_and]at hK<;>first | (simp only [e3,Bool.true_and,Bool.false_and]at hK;exact hK) | exact hK)
noncomputable def E10:=E9.addR 117 G7 SQ
def aB(x a w:Int):Int:=x / 2^a.toNat%2^w.toNat
def bitI(b:Bool):Int:=bif b then 1 else 0
def aN(n w:Int):Bool:=ile 0 n&&ilt n (2^w.toNat)
theorem toNat_ofInt(n:Nat)(x:Int):((BitVec.ofInt n x).toNat :Int)=x%2^n:=by
 rw [BitVec.toNat_ofInt];have h:(0:Int)<(2^n:Nat):=by exact_mod_cast Nat.two_pow_pos n
 have h2:0<=x%((2^n:Nat):Int):=Int.emod_nonneg _ (by omega)
 rw [Int.toNat_of_nonneg h2]
 push_cast
 rfl
theorem jF(w:Nat):(0:Int)<2^w:=by
 have:((2^w:Nat):Int)=2^w:=by push_cast;rfl
 have h:0<2^w:=Nat.two_pow_pos w;omega
theorem TI{w n:Nat}(h:w<=n):(2:Int)^w<=2^n:=by
 have a:((2^w:Nat):Int)=2^w:=by push_cast;rfl
 have b:((2^n:Nat):Int)=2^n:=by push_cast;rfl
 have h:2^w<=2^n:=Nat.pow_le_pow_right (by omega) h
 omega
theorem aAg{w n:Nat}(h:w<=n):(2:Int)^w∣2^n:=by
 have a:((2^w:Nat):Int)=2^w:=by push_cast;rfl
 have b:((2^n:Nat):Int)=2^n:=by push_cast;rfl
 rw [<-a,<-b];exact Int.natCast_dvd_natCast.2 (Nat.pow_dvd_pow 2 h)
theorem jS{n w:Nat}(x:Int)(h:w<n):((BitVec.ofInt n x&&&BitVec.ofInt n (2^w - 1)).toNat :Int)=x%2^w:=by
 have hp:=jF w;have h3:(2:Int)^w<=2^n:=TI (by omega)
 have e1:(BitVec.ofInt n (2^w - 1)).toNat =2^w - 1:=by
  have:((BitVec.ofInt n (2^w - 1)).toNat :Int)=((2^w - 1:Nat):Int):=by
   rw [toNat_ofInt,Int.emod_eq_of_lt (by omega) (by omega)]
   have a:((2^w:Nat):Int)=2^w:=by push_cast;rfl
   have:1<=2^w:=Nat.one_le_two_pow;omega
  exact_mod_cast this
 rw [BitVec.toNat_and,e1,Nat.and_two_pow_sub_one_eq_mod]
 push_cast
 rw [toNat_ofInt];exact Int.emod_emod_of_dvd _ (aAg (by omega))
theorem vM{n a:Nat}{x y:Int}(hx:0<=x/\x<2^a)(hy:0<=y)(h:y*2^a+x<2^n):
 ((BitVec.ofInt n x|||BitVec.ofInt n (y*2^a)).toNat :Int)=x+y*2^a:=by
 have hp:=jF a;have hya:0<=y*2^a:=Int.mul_nonneg hy (by omega)
 obtain⟨u,rfl⟩:=Int.eq_ofNat_of_zero_le hx.1;obtain⟨v,rfl⟩:=Int.eq_ofNat_of_zero_le hy
 have e1:(BitVec.ofInt n (u:Int)).toNat =u:=by
  have:((BitVec.ofInt n (u:Int)).toNat :Int)=(u:Int):=by
   rw [toNat_ofInt,Int.emod_eq_of_lt (by omega) (by omega)]
  exact_mod_cast this
 have e2:(BitVec.ofInt n ((v:Int)*2^a)).toNat =v*2^a:=by
  have:((BitVec.ofInt n ((v:Int)*2^a)).toNat :Int)=((v*2^a:Nat):Int):=by
   rw [toNat_ofInt,Int.emod_eq_of_lt (by omega) (by omega)];push_cast;rfl
  exact_mod_cast this
 have hu:u<2^a:=by
  have b:((2^a:Nat):Int)=2^a:=by push_cast;rfl
  omega
 rw [BitVec.toNat_or,e1,e2]
 have:u|||v*2^a=u+v*2^a:=by
  have:=Nat.shiftLeft_add_eq_or_of_lt hu v;rw [Nat.shiftLeft_eq]at this;rw [Nat.or_comm,<-this];omega
 rw [this];push_cast;rfl
theorem mQ{x:Int}(h:0<=x/\x<=18446744073709551615):IntKind.wrap IntKind.u64 x=x:=IntWalk.u64_in x h
theorem zX{w n:Nat}(h:w<=n){b:Int}(e:b=2^n):(2:Int)^w<=b:=by rw [e];exact TI h
def aCh:bE Ob:=fun args h=>match args,h with
 | [.int .u64 x,.int .i64 a,.int .i64 w],[]=>some ((0<=a/\a<=63)/\(0<=w/\w<=62),.int .i64 (aB x a w))
 | _,_=>none
theorem aCi:aH.ok E10.I Tryz.prog 171 aCh.spec:=by
 intro args h o ho K hK;unfold bE.spec at ho;split at ho
 case h_2=>cases ho
 rename_i p v hv;unfold aCh at hv;split at hv
 case h_2=>cases hv
 rename_i x a w;simp only [sI',pI']at hv;obtain⟨rfl,rfl⟩:=hv;simp only [sI']at ho;subst ho;obtain⟨⟨ha,hw⟩,hK⟩:=hK;have hK:K (.int .i64 (aB x a w)) []:=hK;refine aJ1 (aD (E:=E10) Tryz.checked.mixed (L:=fun _ _=>none) (n:=10) (aK (q:=(0:Int)<=a/\(0:Int)<=w/\K (.int .i64 (W (WU (↑(BitVec.toNat (BitVec.ofInt (IntKind.bits .u64) (Int.fdiv x (2^min (Int.toNat a) (IntKind.bits .u64)))&&&BitVec.ofInt (IntKind.bits .u64) (WU (WU (1*2^min (Int.toNat w) (IntKind.bits .u64)) - 1)))):Int)))) []) (by kernel_rfl) ?_))
 refine⟨by omega,by omega,?_⟩
 refine cast (congrArg (fun z=>K (AVal.int .i64 z) []) ?_) hK;show aB x a w=_;have hb:IntKind.bits .u64 =64:=rfl;rw [hb];have h1:min a.toNat 64=a.toNat:=by omega
 have h2:min w.toNat 64=w.toNat:=by omega
 have h3:(2:Int)^w.toNat<=4611686018427387904:=zX (n:=62) (by omega) (by decide)
 have h4:=jF w.toNat;have h5:=jF a.toNat;rw [h1,h2,Int.fdiv_eq_ediv_of_nonneg _ (by omega)]
 simp only [WU,W,Int.one_mul];rw [mQ (x:=2^w.toNat) (by omega),mQ (x:=2^w.toNat - 1) (by omega),jS _ (by omega)]
 have h6:=Int.emod_nonneg (x / 2^a.toNat) (b:=2^w.toNat) (by omega)
 have h7:=Int.emod_lt_of_pos (x / 2^a.toNat) (b:=2^w.toNat) (by omega)
 rw [mQ (by omega),cH (by omega)]
 rfl
def aB9:bE Ob:=fun args h=>match args,h with
 | [.bool b],[]=>some (True,.int .i64 (bitI b))
 | _,_=>none
theorem aCa:aH.ok E10.I Tryz.prog 297 aB9.spec:=by
 intro args h o ho K hK;unfold bE.spec at ho;split at ho
 case h_2=>cases ho
 rename_i p v hv;unfold aB9 at hv;split at hv
 case h_2=>cases hv
 rename_i b;simp only [sI',pI']at hv;obtain⟨rfl,rfl⟩:=hv;simp only [sI']at ho;subst ho;obtain⟨_,hK⟩:=hK;have hK:K (.int .i64 (bitI b)) []:=hK;refine aJ1 (aD (E:=E10) Tryz.checked.mixed (L:=fun _ _=>none) (n:=10) (aK (q:=bif b then K (.int .i64 1) []else K (.int .i64 0) []) (by kernel_rfl) ?_))
 cases b<;>exact hK
def aDc:bE Ob:=fun args h=>match args,h with
 | [.agg [.int .i64 n,.int .i64 w]],[]=>some (0<=w/\w<=62,.bool (aN n w))
 | _,_=>none
theorem aDd:aH.ok E10.I Tryz.prog 293 aDc.spec:=by
 intro args h o ho K hK;unfold bE.spec at ho;split at ho
 case h_2=>cases ho
 rename_i p v hv;unfold aDc at hv;split at hv
 case h_2=>cases hv
 rename_i n w;simp only [sI',pI']at hv;obtain⟨rfl,rfl⟩:=hv;simp only [sI']at ho;subst ho;obtain⟨hw,hK⟩:=hK;have hK:K (.bool (aN n w)) []:=hK;refine aJ1 (aD (E:=E10) Tryz.checked.mixed (L:=fun _ _=>none) (n:=10) (aK (q:=bif ile 0 n then(0:Int)<=w/\K (.bool (ilt n (W (1*2^min (Int.toNat w) (IntKind.bits .i64))))) []else K (.bool false) []) (by kernel_rfl) ?_))
 unfold aN at hK;have hb:IntKind.bits .i64 =64:=rfl;have h2:min w.toNat 64=w.toNat:=by omega
 have h3:(2:Int)^w.toNat<=4611686018427387904:=zX (n:=62) (by omega) (by decide)
 have h4:=jF w.toNat;refine aJ (fun e=>⟨by omega,?_⟩) (fun e=>?_)
 ·rw [e]at hK;rw [hb,h2,W,Int.one_mul,cH (by omega)]
  exact hK
 ·rw [e]at hK;exact hK
def aW(v:Int):Int:=(v+1)%262144
def RC:bE Ob:=fun args h=>match args,h with
 | [.agg [.int .i64 k,.int .i64 x,.bool m,.int .i64 c,.int .i64 v],.int .i64 y],[]=>some (0<=v/\v<=1000000,.agg [.int .i64 k,.int .i64 y,.bool m,.int .i64 c,.int .i64 (aW v)])
 | _,_=>none
theorem Y3:aH.ok E10.I Tryz.prog 266 RC.spec:=by
 intro args h o ho K hK;unfold bE.spec at ho;split at ho
 case h_2=>cases ho
 rename_i p v hv;unfold RC at hv;split at hv
 case h_2=>cases hv
 rename_i k x m c v y;simp only [sI',pI']at hv;obtain⟨rfl,rfl⟩:=hv;simp only [sI']at ho;subst ho;obtain⟨hw,hK⟩:=hK;have hK:K (.agg [.int .i64 k,.int .i64 y,.bool m,.int .i64 c,.int .i64 (aW v)]) []:=hK;refine aJ1 (aD (E:=E10) Tryz.checked.mixed (L:=fun _ _=>none) (n:=10) (aK (q:=K (.agg [.int .i64 k,.int .i64 y,.bool m,.int .i64 c,.int .i64 (W (↑(BitVec.toNat (BitVec.ofInt (IntKind.bits .i64) (W (v+1))&&&BitVec.ofInt (IntKind.bits .i64) 262143)):Int))]) []) (by kernel_rfl) ?_))
 refine cast (congrArg (fun z=>K (.agg [.int .i64 k,.int .i64 y,.bool m,.int .i64 c,.int .i64 z]) []) ?_) hK;show aW v=_;have hb:IntKind.bits .i64 =64:=rfl;simp only [W];rw [hb,cH (x:=v+1) (by omega)]
 have:=jS (n:=64) (w:=18) (v+1) (by omega)
 have e:(2:Int)^18 - 1=262143:=by decide
 rw [e]at this;rw [this];have e2:(2:Int)^18=262144:=by decide
 rw [e2,cH (by omega)]
 rfl
noncomputable def E11:=((((E10.addR 171 aCh aCi).addR 297 aB9 aCa).addR 293 aDc aDd).addR 266 RC Y3)
def aDu:bE Ob:=fun args h=>match args,h with
 | [.int .u64 x],[]=>some (True,.agg [.int .i64 (aB x 0 10),.int .i64 (aB x 10 9),.bool (ieq (aB x 19 1) 1),.int .i64 (aB x 20 5),.int .i64 (aB x 25 18)])
 | _,_=>none
set_option maxRecDepth 100000 in
theorem aDv:aH.ok E11.I Tryz.prog 133 aDu.spec:=by
 intro args h o ho K hK;unfold bE.spec at ho;split at ho
 case h_2=>cases ho
 rename_i p v hv;unfold aDu at hv;split at hv
 case h_2=>cases hv
 rename_i x;simp only [sI',pI']at hv;obtain⟨rfl,rfl⟩:=hv;simp only [sI']at ho;subst ho;obtain⟨_,hK⟩:=hK;refine aJ1 (cM' (E:=E11) (q:=((0:Int)<=(0:Int)/\(0:Int)<(↑5:Int))/\((0:Int)<=(0:Int)/\(0:Int)<(↑1:Int))/\1+(1:Nat)<=(4294967296:Nat)/\((0:Int)<=W (0+1)/\W (0+1)<(↑5:Int))/\((0:Int)<=W (0+1)/\W (0+1)<(↑(1+1):Int))/\1+1+(1:Nat)<=(4294967296:Nat)/\((0:Int)<=W (W (0+1)+1)/\W (W (0+1)+1)<(↑5:Int))/\((0:Int)<=W (W (0+1)+1)/\W (W (0+1)+1)<(↑(1+1+1):Int))/\1+1+1+(1:Nat)<=(4294967296:Nat)/\((0:Int)<=W (W (W (0+1)+1)+1)/\W (W (W (0+1)+1)+1)<(↑5:Int))/\((0:Int)<=W (W (W (0+1)+1)+1)/\W (W (W (0+1)+1)+1)<(↑(1+1+1+1):Int))/\1+1+1+1+(1:Nat)<=(4294967296:Nat)/\((0:Int)<=W (W (W (W (0+1)+1)+1)+1)/\W (W (W (W (0+1)+1)+1)+1)<(↑5:Int))/\((0:Int)<=W (W (W (W (0+1)+1)+1)+1)/\W (W (W (W (0+1)+1)+1)+1)<(↑(1+1+1+1+1):Int))/\1+1+1+1+1+(1:Nat)<=(4294967296:Nat)/\((0:Int)<=(0:Int)/\(0:Int)<(↑(1+1+1+1+1+1):Int))/\(((0:Int)<=(0:Int)/\(0:Int)<=(63:Int))/\(0:Int)<=(10:Int)/\(10:Int)<=(62:Int))/\((0:Int)<=(1:Int)/\(1:Int)<(↑(1+1+1+1+1+1):Int))/\(((0:Int)<=W (0+10)/\W (0+10)<=(63:Int))/\(0:Int)<=(9:Int)/\(9:Int)<=(62:Int))/\((0:Int)<=(2:Int)/\(2:Int)<(↑(1+1+1+1+1+1):Int))/\(((0:Int)<=W (W (0+10)+9)/\W (W (0+10)+9)<=(63:Int))/\(0:Int)<=(1:Int)/\(1:Int)<=(62:Int))/\((0:Int)<=(3:Int)/\(3:Int)<(↑(1+1+1+1+1+1):Int))/\(((0:Int)<=W (W (W (0+10)+9)+1)/\W (W (W (0+10)+9)+1)<=(63:Int))/\(0:Int)<=(5:Int)/\(5:Int)<=(62:Int))/\((0:Int)<=(4:Int)/\(4:Int)<(↑(1+1+1+1+1+1):Int))/\(((0:Int)<=W (W (W (W (0+10)+9)+1)+5)/\W (W (W (W (0+10)+9)+1)+5)<=(63:Int))/\(0:Int)<=(18:Int)/\(18:Int)<=(62:Int))/\K (.agg [.int .i64 (aB x 0 10),.int .i64 (aB x (W (0+10)) 9),.bool (ieq (aB x (W (W (0+10)+9)) 1) 1),.int .i64 (aB x (W (W (W (0+10)+9)+1)) 5),.int .i64 (aB x (W (W (W (W (0+10)+9)+1)+5)) 18)]) []) (by kernel_rfl) ?_)
 simp(disch:=omega) only [W,cH,Int.reduceAdd,Int.zero_add]
 repeat refine⟨by omega,?_⟩
 exact hK
theorem lI{n w:Int} :aN n w=true↔0<=n/\n<2^w.toNat:=by
 unfold aN;simp only [bZ,bI,Bool.and_eq_true,dT']
theorem gC{a:Nat}{x y p s q:Int}(e:p=2^a)(hx:0<=x/\x<p)(hy:0<=y)(h:y*p+x<=18446744073709551615)(hs:s=x+y*p)(eq:q=p):
 WU (((BitVec.ofInt 64 x|||BitVec.ofInt 64 (WU (WU y*q))).toNat :Int))=s:=by
 subst eq;have hya:0<=y*q:=Int.mul_nonneg hy (by omega)
 have h1:y<=y*q:=by
  have:=Int.mul_le_mul_of_nonneg_left (show(1:Int)<=q by omega) hy
  omega
 have e1:WU y=y:=mQ (by omega)
 rw [e1];have e2:WU (y*q)=y*q:=mQ (by omega)
 rw [e2];subst e
 rw [vM hx hy (by have:(2:Int)^64=18446744073709551616:=by decide
                  omega)]
 rw [hs];exact mQ (by omega)
theorem XA(m:Bool):aN (bitI m) 1=true:=by cases m<;>rfl
theorem tU{n w:Int}(h:(!aN n w)=true):aN n w=false:=by simpa using h
theorem eM{n w:Int}(h:(!aN n w)=false):aN n w=true:=by simpa using h
def vV(k x:Int)(m:Bool)(c v:Int):Bool:=aN k 10&&(aN x 9&&(aN c 5&&aN v 18))
def cR(k x:Int)(m:Bool)(c v:Int):Int:=k+x*1024+bitI m*524288+c*1048576+v*33554432
def aEB:bE Ob:=fun args h=>match args,h with
 | [.agg [.int .i64 k,.int .i64 x,.bool m,.int .i64 c,.int .i64 v]],[]=>some (True,.tup [.int .u64 (bif vV k x m c v then cR k x m c v else 0),.int .i64 (bif vV k x m c v then 0 else 2)])
 | _,_=>none
set_option maxRecDepth 100000 in
theorem aEC:aH.ok E11.I Tryz.prog 263 aEB.spec:=by
 intro args h o ho K hK;unfold bE.spec at ho;split at ho
 case h_2=>cases ho
 rename_i p v hv;unfold aEB at hv;split at hv
 case h_2=>cases hv
 rename_i k x m c v;simp only [sI',pI']at hv;obtain⟨rfl,rfl⟩:=hv;simp only [sI']at ho;subst ho;obtain⟨_,hK⟩:=hK;refine aJ1 (cM' (E:=E11) (q:=True/\((0:Int)<=(0:Int)/\(0:Int)<(↑5:Int))/\((0:Int)<=(10:Int)/\(10:Int)<=(62:Int))/\bif !aN k 10 then K (.tup [.int .u64 0,.int .i64 2]) []else(0:Int)<=(0:Int)/\((0:Int)<=W (0+1)/\W (0+1)<(↑5:Int))/\((0:Int)<=(9:Int)/\(9:Int)<=(62:Int))/\bif !aN x 9 then K (.tup [.int .u64 0,.int .i64 2]) []else(0:Int)<=W (0+10)/\((0:Int)<=W (W (0+1)+1)/\W (W (0+1)+1)<(↑5:Int))/\((0:Int)<=(1:Int)/\(1:Int)<=(62:Int))/\bif !aN (bitI m) 1 then K (.tup [.int .u64 0,.int .i64 2]) []else(0:Int)<=W (W (0+10)+9)/\((0:Int)<=W (W (W (0+1)+1)+1)/\W (W (W (0+1)+1)+1)<(↑5:Int))/\((0:Int)<=(5:Int)/\(5:Int)<=(62:Int))/\bif !aN c 5 then K (.tup [.int .u64 0,.int .i64 2]) []else(0:Int)<=W (W (W (0+10)+9)+1)/\((0:Int)<=W (W (W (W (0+1)+1)+1)+1)/\W (W (W (W (0+1)+1)+1)+1)<(↑5:Int))/\((0:Int)<=(18:Int)/\(18:Int)<=(62:Int))/\bif !aN v 18 then K (.tup [.int .u64 0,.int .i64 2]) []else(0:Int)<=W (W (W (W (0+10)+9)+1)+5)/\K (.tup [.int .u64 (WU (↑(BitVec.toNat (BitVec.ofInt (IntKind.bits .u64) (WU (↑(BitVec.toNat (BitVec.ofInt (IntKind.bits .u64) (WU (↑(BitVec.toNat (BitVec.ofInt (IntKind.bits .u64) (WU (↑(BitVec.toNat (BitVec.ofInt (IntKind.bits .u64) (WU (↑(BitVec.toNat (BitVec.ofInt (IntKind.bits .u64) 0|||BitVec.ofInt (IntKind.bits .u64) (WU (WU k*2^min (Int.toNat 0) (IntKind.bits .u64))))):Int))|||BitVec.ofInt (IntKind.bits .u64) (WU (WU x*2^min (Int.toNat (W (0+10))) (IntKind.bits .u64))))):Int))|||BitVec.ofInt (IntKind.bits .u64) (WU (WU (bitI m)*2^min (Int.toNat (W (W (0+10)+9))) (IntKind.bits .u64))))):Int))|||BitVec.ofInt (IntKind.bits .u64) (WU (WU c*2^min (Int.toNat (W (W (W (0+10)+9)+1))) (IntKind.bits .u64))))):Int))|||BitVec.ofInt (IntKind.bits .u64) (WU (WU v*2^min (Int.toNat (W (W (W (W (0+10)+9)+1)+5))) (IntKind.bits .u64))))):Int)),.int .i64 0]) []) (by kernel_rfl) ?_)
 simp(disch:=omega) only [W,cH,Int.reduceAdd,Int.zero_add,Int.reduceToNat]
 refine⟨trivial,⟨by omega,by omega⟩,by omega,aJ (fun e=>?_) (fun e1=>⟨by omega,by omega,by omega,aJ (fun e=>?_) (fun e2=>⟨by omega,by omega,by omega,aJ (fun e=>?_) (fun _=>⟨by omega,by omega,by omega,aJ (fun e=>?_) (fun e3=>⟨by omega,by omega,by omega,aJ (fun e=>?_) (fun e4=>⟨by omega,?_⟩)⟩)⟩)⟩)⟩)⟩
 ·unfold vV at hK;rw [tU e]at hK;exact hK
 ·unfold vV at hK;rw [eM e1,tU e]at hK;exact hK
 ·rw [XA]at e;cases e
 ·unfold vV at hK;rw [eM e1,eM e2,tU e]at hK;exact hK
 ·unfold vV at hK;rw [eM e1,eM e2,eM e3,tU e]at hK;exact hK
 ·unfold vV at hK;rw [eM e1,eM e2,eM e3,eM e4]at hK;have f1:=lI.1 (eM e1);have f2:=lI.1 (eM e2);have f3:=lI.1 (eM e3);have f4:=lI.1 (eM e4);have fm:0<=bitI m/\bitI m<=1:=by cases m<;>decide
  have hb:IntKind.bits .u64 =64:=rfl;have p1:(2:Int)^(10:Int).toNat =1024:=by decide
  have p2:(2:Int)^(9:Int).toNat =512:=by decide
  have p3:(2:Int)^(5:Int).toNat =32:=by decide
  have p4:(2:Int)^(18:Int).toNat =262144:=by decide
  rw [p1]at f1;rw [p2]at f2;rw [p3]at f3;rw [p4]at f4;refine cast (congrArg (fun z=>K (AVal.tup [.int .u64 z,.int .i64 0]) []) ?_) hK;show cR k x m c v=_;unfold cR;symm;have q0:=gC (a:=0) (x:=0) (y:=k) (p:=1) (q:=2^min 0 64) (s:=k) (by decide) (by omega) (by omega) (by omega) (by omega) (by decide)
  have q1:=gC (a:=10) (x:=k) (y:=x) (p:=1024) (q:=2^min 10 64) (s:=k+x*1024) (by decide) (by omega) (by omega) (by omega) (by omega) (by decide)
  have q2:=gC (a:=19) (x:=k+x*1024) (y:=bitI m) (p:=524288) (q:=2^min 19 64) (s:=k+x*1024+bitI m*524288) (by decide) (by omega) (by omega) (by omega) (by omega) (by decide)
  have q3:=gC (a:=20) (x:=k+x*1024+bitI m*524288) (y:=c) (p:=1048576) (q:=2^min 20 64) (s:=k+x*1024+bitI m*524288+c*1048576) (by decide) (by omega) (by omega) (by omega) (by omega) (by decide)
  have q4:=gC (a:=25) (x:=k+x*1024+bitI m*524288+c*1048576) (y:=v) (p:=33554432) (q:=2^min 25 64) (s:=k+x*1024+bitI m*524288+c*1048576+v*33554432) (by decide) (by omega) (by omega) (by omega) (by omega) (by decide)
  rw [hb];rw [WU]at q0 q1 q2 q3 q4;simp only [WU]at q0 q1 q2 q3 q4⊢;rw [q0,q1,q2,q3,q4]
noncomputable def E12:=(E11.addR 133 aDu aDv).addR 263 aEB aEC
noncomputable def E13a:=E12
theorem yC{x:Int}(h: -9223372036854775808<=x/\x<=9223372036854775807):W x=x:=cH h
noncomputable def E13:=E13a
theorem aAc{x t:Int}(h:0<=x)(ht:1<=t):0<=Int.tmod x t/\Int.tmod x t<t:=by
 rw [Int.tmod_eq_emod_of_nonneg h];exact⟨Int.emod_nonneg _ (by omega),Int.emod_lt_of_pos _ (by omega)⟩
noncomputable def E14:=E13
theorem WT(x:Int){b:Int}(h:0<b):0<=x%b/\x%b<b:=⟨Int.emod_nonneg _ (by omega),Int.emod_lt_of_pos _ h⟩
theorem VP{x a w:Int} :0<=aB x a w/\aB x a w<2^w.toNat:=WT _ (jF _)
noncomputable def E15:=(E14)
structure TS where
 i:Int
 bad:Bool
 out:Bool
instance:Inhabited TS:=⟨⟨0,false,false⟩⟩
def a0(r:List Int):Int:=List.headD r 0
def a1(r:List Int):Int:=List.headD (List.tail r) 0
def a2(r:List Int):Int:=List.headD (List.tail (List.tail r)) 0
def a3(r:List Int):Int:=List.headD (List.tail (List.tail (List.tail r))) 0
def a4(r:List Int):Bool:=!ieq (List.headD (List.tail (List.tail (List.tail (List.tail r)))) 0) 0
theorem aEi{b:Bool}(h:(!b)=true):b=false:=by simpa using h
theorem aEh{b:Bool}(h:(!b)=false):b=true:=by simpa using h
noncomputable def E16a:=(E15)
noncomputable def E16:=((((E16a))))
structure ZC (xs:List Int):Prop where
 h: ∀x∈xs,0<=x/\x<=18446744073709551615
theorem vJ{xs:List Int}(h:ZC xs)(a:Int):0<=aE xs a/\aE xs a<=18446744073709551615:=by
 unfold aE;split
 ·rename_i hi;have hlt:a.toNat<xs.length:=by omega
  rw [gD',gE' hlt];exact h.h _ (List.getElem_mem hlt)
 ·omega
def nK(s:Int):Bool:=ile 1 s&&ile s 4
def resC(d e:Int):Int:=bif ieq e 5 then(bif ieq d 1 then 4 else 0)else 5
def ZO(d e:Int)(m:Bool):Bool:=bif ieq e 5 then(bif ieq d 1 then false else m)else false
def ZP(d e f:Int):Int:=bif ieq e 5 then(bif ieq d 1 then 0 else f)else 0
def cM(a b c d:Int)(m:Bool)(e f:Int):Int:=a+b*4096+c*2097152+d*549755813888+bitI m*281474976710656+e*562949953421312+f*4503599627370496
def dOk(a b c d e f:Int):Bool:=aN a 12&&(aN b 9&&(aN c 18&&(aN d 9&&(aN e 3&&aN f 10))))
theorem VQ{x a w:Int}(ha:0<=a/\a<=63)(hw:0<=w/\w<=62):IntKind.wrap .i64 (IntKind.wrap .u64 ((BitVec.ofInt (IntKind.bits .u64) (Int.fdiv x (2^min (Int.toNat a) (IntKind.bits .u64)))&&&BitVec.ofInt (IntKind.bits .u64) (IntKind.wrap .u64 (IntKind.wrap .u64 (1*2^min (Int.toNat w) (IntKind.bits .u64)) - 1))).toNat :Int))=aB x a w:=by
 have hb:IntKind.bits .u64 =64:=rfl;rw [hb];have h1:min a.toNat 64=a.toNat:=by omega
 have h2:min w.toNat 64=w.toNat:=by omega
 have h3:(2:Int)^w.toNat<=4611686018427387904:=zX (n:=62) (by omega) (by decide)
 have h4:=jF w.toNat;have h5:=jF a.toNat;rw [h1,h2,Int.fdiv_eq_ediv_of_nonneg _ (by omega)]
 simp only [WU,W,Int.one_mul];rw [mQ (x:=2^w.toNat) (by omega),mQ (x:=2^w.toNat - 1) (by omega),jS _ (by omega)]
 have h6:=Int.emod_nonneg (x / 2^a.toNat) (b:=2^w.toNat) (by omega)
 have h7:=Int.emod_lt_of_pos (x / 2^a.toNat) (b:=2^w.toNat) (by omega)
 rw [mQ (by omega),cH (by omega)]
 rfl
def O3:bE Ob:=fun args h=>match args,h with
 | [.int .u64 x],[]=>some (True,.agg [.int .i64 (aB x 0 12),.int .i64 (aB x 12 9),.int .i64 (aB x 21 18),.int .i64 (aB x 39 9),.bool (ieq (aB x 48 1) 1),.int .i64 (aB x 49 3),.int .i64 (aB x 52 10)])
 | _,_=>none
set_option maxRecDepth 100000 in
theorem VU:aH.ok E16.I Tryz.prog 190 O3.spec:=by
 intro args h o ho K hK;unfold bE.spec at ho;split at ho
 case h_2=>cases ho
 rename_i pp vv hv;unfold O3 at hv;split at hv
 case h_2=>cases hv
 rename_i x;simp only [sI',pI']at hv;obtain⟨rfl,rfl⟩:=hv;simp only [sI']at ho;subst ho;obtain⟨hp,hK⟩:=hK;have hK:K (.agg [.int .i64 (aB x 0 12),.int .i64 (aB x 12 9),.int .i64 (aB x 21 18),.int .i64 (aB x 39 9),.bool (ieq (aB x 48 1) 1),.int .i64 (aB x 49 3),.int .i64 (aB x 52 10)]) []:=hK;refine aJ1 (cM' (E:=E16) (q:=((0:Int)<=(0:Int)/\(0:Int)<(↑7:Int))/\((0:Int)<=(0:Int)/\(0:Int)<(↑1:Int))/\1+(1:Nat)<=(4294967296:Nat)/\((0:Int)<=W (0+1)/\W (0+1)<(↑7:Int))/\((0:Int)<=W (0+1)/\W (0+1)<(↑(1+1):Int))/\1+1+(1:Nat)<=(4294967296:Nat)/\((0:Int)<=W (W (0+1)+1)/\W (W (0+1)+1)<(↑7:Int))/\((0:Int)<=W (W (0+1)+1)/\W (W (0+1)+1)<(↑(1+1+1):Int))/\1+1+1+(1:Nat)<=(4294967296:Nat)/\((0:Int)<=W (W (W (0+1)+1)+1)/\W (W (W (0+1)+1)+1)<(↑7:Int))/\((0:Int)<=W (W (W (0+1)+1)+1)/\W (W (W (0+1)+1)+1)<(↑(1+1+1+1):Int))/\1+1+1+1+(1:Nat)<=(4294967296:Nat)/\((0:Int)<=W (W (W (W (0+1)+1)+1)+1)/\W (W (W (W (0+1)+1)+1)+1)<(↑7:Int))/\((0:Int)<=W (W (W (W (0+1)+1)+1)+1)/\W (W (W (W (0+1)+1)+1)+1)<(↑(1+1+1+1+1):Int))/\1+1+1+1+1+(1:Nat)<=(4294967296:Nat)/\((0:Int)<=W (W (W (W (W (0+1)+1)+1)+1)+1)/\W (W (W (W (W (0+1)+1)+1)+1)+1)<(↑7:Int))/\((0:Int)<=W (W (W (W (W (0+1)+1)+1)+1)+1)/\W (W (W (W (W (0+1)+1)+1)+1)+1)<(↑(1+1+1+1+1+1):Int))/\1+1+1+1+1+1+(1:Nat)<=(4294967296:Nat)/\((0:Int)<=W (W (W (W (W (W (0+1)+1)+1)+1)+1)+1)/\W (W (W (W (W (W (0+1)+1)+1)+1)+1)+1)<(↑7:Int))/\((0:Int)<=W (W (W (W (W (W (0+1)+1)+1)+1)+1)+1)/\W (W (W (W (W (W (0+1)+1)+1)+1)+1)+1)<(↑(1+1+1+1+1+1+1):Int))/\1+1+1+1+1+1+1+(1:Nat)<=(4294967296:Nat)/\((0:Int)<=(0:Int)/\(0:Int)<(↑(1+1+1+1+1+1+1+1):Int))/\(0:Int)<=(0:Int)/\((0:Int)<=(0:Int)/\(0:Int)<(↑7:Int))/\(0:Int)<=(12:Int)/\((0:Int)<=(0:Int)/\(0:Int)<(↑7:Int))/\((0:Int)<=W (0+1)/\W (0+1)<(↑(1+1+1+1+1+1+1+1):Int))/\(0:Int)<=W (0+12)/\((0:Int)<=W (0+1)/\W (0+1)<(↑7:Int))/\(0:Int)<=(9:Int)/\((0:Int)<=W (0+1)/\W (0+1)<(↑7:Int))/\((0:Int)<=W (W (0+1)+1)/\W (W (0+1)+1)<(↑(1+1+1+1+1+1+1+1):Int))/\(0:Int)<=W (W (0+12)+9)/\((0:Int)<=W (W (0+1)+1)/\W (W (0+1)+1)<(↑7:Int))/\(0:Int)<=(18:Int)/\((0:Int)<=W (W (0+1)+1)/\W (W (0+1)+1)<(↑7:Int))/\((0:Int)<=W (W (W (0+1)+1)+1)/\W (W (W (0+1)+1)+1)<(↑(1+1+1+1+1+1+1+1):Int))/\(0:Int)<=W (W (W (0+12)+9)+18)/\((0:Int)<=W (W (W (0+1)+1)+1)/\W (W (W (0+1)+1)+1)<(↑7:Int))/\(0:Int)<=(9:Int)/\((0:Int)<=W (W (W (0+1)+1)+1)/\W (W (W (0+1)+1)+1)<(↑7:Int))/\((0:Int)<=W (W (W (W (0+1)+1)+1)+1)/\W (W (W (W (0+1)+1)+1)+1)<(↑(1+1+1+1+1+1+1+1):Int))/\(0:Int)<=W (W (W (W (0+12)+9)+18)+9)/\((0:Int)<=W (W (W (W (0+1)+1)+1)+1)/\W (W (W (W (0+1)+1)+1)+1)<(↑7:Int))/\(0:Int)<=(1:Int)/\((0:Int)<=W (W (W (W (0+1)+1)+1)+1)/\W (W (W (W (0+1)+1)+1)+1)<(↑7:Int))/\((0:Int)<=W (W (W (W (W (0+1)+1)+1)+1)+1)/\W (W (W (W (W (0+1)+1)+1)+1)+1)<(↑(1+1+1+1+1+1+1+1):Int))/\(0:Int)<=W (W (W (W (W (0+12)+9)+18)+9)+1)/\((0:Int)<=W (W (W (W (W (0+1)+1)+1)+1)+1)/\W (W (W (W (W (0+1)+1)+1)+1)+1)<(↑7:Int))/\(0:Int)<=(3:Int)/\((0:Int)<=W (W (W (W (W (0+1)+1)+1)+1)+1)/\W (W (W (W (W (0+1)+1)+1)+1)+1)<(↑7:Int))/\((0:Int)<=W (W (W (W (W (W (0+1)+1)+1)+1)+1)+1)/\W (W (W (W (W (W (0+1)+1)+1)+1)+1)+1)<(↑(1+1+1+1+1+1+1+1):Int))/\(0:Int)<=W (W (W (W (W (W (0+12)+9)+18)+9)+1)+3)/\((0:Int)<=W (W (W (W (W (W (0+1)+1)+1)+1)+1)+1)/\W (W (W (W (W (W (0+1)+1)+1)+1)+1)+1)<(↑7:Int))/\(0:Int)<=(10:Int)/\((0:Int)<=W (W (W (W (W (W (0+1)+1)+1)+1)+1)+1)/\W (W (W (W (W (W (0+1)+1)+1)+1)+1)+1)<(↑7:Int))/\((0:Int)<=(0:Int)/\(0:Int)<(↑7:Int))/\((0:Int)<=(1:Int)/\(1:Int)<(↑7:Int))/\((0:Int)<=(2:Int)/\(2:Int)<(↑7:Int))/\((0:Int)<=(3:Int)/\(3:Int)<(↑7:Int))/\((0:Int)<=(4:Int)/\(4:Int)<(↑7:Int))/\((0:Int)<=(5:Int)/\(5:Int)<(↑7:Int))/\((0:Int)<=(6:Int)/\(6:Int)<(↑7:Int))/\K (.agg [.int .i64 (W (WU (↑(BitVec.toNat (BitVec.ofInt (IntKind.bits .u64) (Int.fdiv x (2^min (Int.toNat 0) (IntKind.bits .u64)))&&&BitVec.ofInt (IntKind.bits .u64) (WU (WU (1*2^min (Int.toNat 12) (IntKind.bits .u64)) - 1)))):Int))),.int .i64 (W (WU (↑(BitVec.toNat (BitVec.ofInt (IntKind.bits .u64) (Int.fdiv x (2^min (Int.toNat (W (0+12))) (IntKind.bits .u64)))&&&BitVec.ofInt (IntKind.bits .u64) (WU (WU (1*2^min (Int.toNat 9) (IntKind.bits .u64)) - 1)))):Int))),.int .i64 (W (WU (↑(BitVec.toNat (BitVec.ofInt (IntKind.bits .u64) (Int.fdiv x (2^min (Int.toNat (W (W (0+12)+9))) (IntKind.bits .u64)))&&&BitVec.ofInt (IntKind.bits .u64) (WU (WU (1*2^min (Int.toNat 18) (IntKind.bits .u64)) - 1)))):Int))),.int .i64 (W (WU (↑(BitVec.toNat (BitVec.ofInt (IntKind.bits .u64) (Int.fdiv x (2^min (Int.toNat (W (W (W (0+12)+9)+18))) (IntKind.bits .u64)))&&&BitVec.ofInt (IntKind.bits .u64) (WU (WU (1*2^min (Int.toNat 9) (IntKind.bits .u64)) - 1)))):Int))),.bool (ieq (W (WU (↑(BitVec.toNat (BitVec.ofInt (IntKind.bits .u64) (Int.fdiv x (2^min (Int.toNat (W (W (W (W (0+12)+9)+18)+9))) (IntKind.bits .u64)))&&&BitVec.ofInt (IntKind.bits .u64) (WU (WU (1*2^min (Int.toNat 1) (IntKind.bits .u64)) - 1)))):Int))) 1),.int .i64 (W (WU (↑(BitVec.toNat (BitVec.ofInt (IntKind.bits .u64) (Int.fdiv x (2^min (Int.toNat (W (W (W (W (W (0+12)+9)+18)+9)+1))) (IntKind.bits .u64)))&&&BitVec.ofInt (IntKind.bits .u64) (WU (WU (1*2^min (Int.toNat 3) (IntKind.bits .u64)) - 1)))):Int))),.int .i64 (W (WU (↑(BitVec.toNat (BitVec.ofInt (IntKind.bits .u64) (Int.fdiv x (2^min (Int.toNat (W (W (W (W (W (W (0+12)+9)+18)+9)+1)+3))) (IntKind.bits .u64)))&&&BitVec.ofInt (IntKind.bits .u64) (WU (WU (1*2^min (Int.toNat 10) (IntKind.bits .u64)) - 1)))):Int)))]) []) (by kernel_rfl) ?_)
 simp(disch:=omega) only [W,WU,cH,Int.reduceAdd,Int.zero_add]
 simp(disch:=omega) only [VQ]
 repeat refine⟨by omega,?_⟩
 exact hK
theorem I6{a b:Int}{X Y:Prop}(h1:a<b->X)(h2:b<=a->Y):cond (ilt a b) X Y:=
 aJ (fun e=>h1 (by rw [bI,dT']at e;exact e)) (fun e=>h2 (by rw [bI,dF']at e;omega))
theorem xM{a b:Int}{X Y:Prop}(h1:a<=b->X)(h2:b<a->Y):cond (ile a b) X Y:=
 aJ (fun e=>h1 (by rw [bZ,dT']at e;exact e)) (fun e=>h2 (by rw [bZ,dF']at e;omega))
theorem H1{a b:Int}{X Y:Prop}(h1:a=b->X)(h2:a≠b->Y):cond (ieq a b) X Y:=
 aJ (fun e=>h1 (by rw [cI]at e;simpa using e)) (fun e=>h2 (by rw [cI]at e;simpa using e))
theorem p8{a b c d e f:Int} :dOk a b c d e f=true↔(0<=a/\a<4096)/\(0<=b/\b<512)/\(0<=c/\c<262144)/\(0<=d/\d<512)/\(0<=e/\e<8)/\(0<=f/\f<1024):=by
 unfold dOk;simp only [Bool.and_eq_true,lI]<;>rfl
def O4:bE Ob:=fun args h=>match args,h with
 | [.agg [.int .i64 a,.int .i64 b,.int .i64 c,.int .i64 d,.bool m,.int .i64 e,.int .i64 f]],[]=>some (True,.tup [.int .u64 (bif dOk a b c d e f then cM a b c d m e f else 0),.int .i64 (bif dOk a b c d e f then 0 else 2)])
 | _,_=>none
set_option maxRecDepth 100000 in
theorem VV:aH.ok E16.I Tryz.prog 199 O4.spec:=by
 intro args h o ho K hK;unfold bE.spec at ho;split at ho
 case h_2=>cases ho
 rename_i pp vv hv;unfold O4 at hv;split at hv
 case h_2=>cases hv
 rename_i a b c d m e f;simp only [sI',pI']at hv;obtain⟨rfl,rfl⟩:=hv;simp only [sI']at ho;subst ho;obtain⟨hp,hK⟩:=hK;have hK:K (.tup [.int .u64 (bif dOk a b c d e f then cM a b c d m e f else 0),.int .i64 (bif dOk a b c d e f then 0 else 2)]) []:=hK;refine aJ1 (cM' (E:=E16) (q:=((0:Int)<=(0:Int)/\(0:Int)<(↑7:Int))/\((0:Int)<=(0:Int)/\(0:Int)<(↑1:Int))/\1+(1:Nat)<=(4294967296:Nat)/\((0:Int)<=W (0+1)/\W (0+1)<(↑7:Int))/\((0:Int)<=W (0+1)/\W (0+1)<(↑(1+1):Int))/\1+1+(1:Nat)<=(4294967296:Nat)/\((0:Int)<=W (W (0+1)+1)/\W (W (0+1)+1)<(↑7:Int))/\((0:Int)<=W (W (0+1)+1)/\W (W (0+1)+1)<(↑(1+1+1):Int))/\1+1+1+(1:Nat)<=(4294967296:Nat)/\((0:Int)<=W (W (W (0+1)+1)+1)/\W (W (W (0+1)+1)+1)<(↑7:Int))/\((0:Int)<=W (W (W (0+1)+1)+1)/\W (W (W (0+1)+1)+1)<(↑(1+1+1+1):Int))/\1+1+1+1+(1:Nat)<=(4294967296:Nat)/\((0:Int)<=W (W (W (W (0+1)+1)+1)+1)/\W (W (W (W (0+1)+1)+1)+1)<(↑7:Int))/\((0:Int)<=W (W (W (W (0+1)+1)+1)+1)/\W (W (W (W (0+1)+1)+1)+1)<(↑(1+1+1+1+1):Int))/\1+1+1+1+1+(1:Nat)<=(4294967296:Nat)/\((0:Int)<=W (W (W (W (W (0+1)+1)+1)+1)+1)/\W (W (W (W (W (0+1)+1)+1)+1)+1)<(↑7:Int))/\((0:Int)<=W (W (W (W (W (0+1)+1)+1)+1)+1)/\W (W (W (W (W (0+1)+1)+1)+1)+1)<(↑(1+1+1+1+1+1):Int))/\1+1+1+1+1+1+(1:Nat)<=(4294967296:Nat)/\((0:Int)<=W (W (W (W (W (W (0+1)+1)+1)+1)+1)+1)/\W (W (W (W (W (W (0+1)+1)+1)+1)+1)+1)<(↑7:Int))/\((0:Int)<=W (W (W (W (W (W (0+1)+1)+1)+1)+1)+1)/\W (W (W (W (W (W (0+1)+1)+1)+1)+1)+1)<(↑(1+1+1+1+1+1+1):Int))/\1+1+1+1+1+1+1+(1:Nat)<=(4294967296:Nat)/\bif m then((0:Int)<=(0:Int)/\(0:Int)<(↑7:Int))/\bif ilt a 0 then K (.tup [.int .u64 0,.int .i64 2]) []else((0:Int)<=(0:Int)/\(0:Int)<(↑7:Int))/\(0:Int)<=(12:Int)/\bif ile (W (1*2^min (Int.toNat 12) (IntKind.bits .i64))) a then K (.tup [.int .u64 0,.int .i64 2]) []else((0:Int)<=(0:Int)/\(0:Int)<(↑(1+1+1+1+1+1+1+1):Int))/\(0:Int)<=(0:Int)/\((0:Int)<=W (0+1)/\W (0+1)<(↑7:Int))/\bif ilt b 0 then K (.tup [.int .u64 0,.int .i64 2]) []else((0:Int)<=W (0+1)/\W (0+1)<(↑7:Int))/\(0:Int)<=(9:Int)/\bif ile (W (1*2^min (Int.toNat 9) (IntKind.bits .i64))) b then K (.tup [.int .u64 0,.int .i64 2]) []else((0:Int)<=W (0+1)/\W (0+1)<(↑(1+1+1+1+1+1+1+1):Int))/\(0:Int)<=W (0+12)/\((0:Int)<=W (W (0+1)+1)/\W (W (0+1)+1)<(↑7:Int))/\bif ilt c 0 then K (.tup [.int .u64 0,.int .i64 2]) []else((0:Int)<=W (W (0+1)+1)/\W (W (0+1)+1)<(↑7:Int))/\(0:Int)<=(18:Int)/\bif ile (W (1*2^min (Int.toNat 18) (IntKind.bits .i64))) c then K (.tup [.int .u64 0,.int .i64 2]) []else((0:Int)<=W (W (0+1)+1)/\W (W (0+1)+1)<(↑(1+1+1+1+1+1+1+1):Int))/\(0:Int)<=W (W (0+12)+9)/\((0:Int)<=W (W (W (0+1)+1)+1)/\W (W (W (0+1)+1)+1)<(↑7:Int))/\bif ilt d 0 then K (.tup [.int .u64 0,.int .i64 2]) []else((0:Int)<=W (W (W (0+1)+1)+1)/\W (W (W (0+1)+1)+1)<(↑7:Int))/\(0:Int)<=(9:Int)/\bif ile (W (1*2^min (Int.toNat 9) (IntKind.bits .i64))) d then K (.tup [.int .u64 0,.int .i64 2]) []else((0:Int)<=W (W (W (0+1)+1)+1)/\W (W (W (0+1)+1)+1)<(↑(1+1+1+1+1+1+1+1):Int))/\(0:Int)<=W (W (W (0+12)+9)+18)/\((0:Int)<=W (W (W (W (0+1)+1)+1)+1)/\W (W (W (W (0+1)+1)+1)+1)<(↑7:Int))/\((0:Int)<=W (W (W (W (0+1)+1)+1)+1)/\W (W (W (W (0+1)+1)+1)+1)<(↑7:Int))/\(0:Int)<=(1:Int)/\((0:Int)<=W (W (W (W (0+1)+1)+1)+1)/\W (W (W (W (0+1)+1)+1)+1)<(↑(1+1+1+1+1+1+1+1):Int))/\(0:Int)<=W (W (W (W (0+12)+9)+18)+9)/\((0:Int)<=W (W (W (W (W (0+1)+1)+1)+1)+1)/\W (W (W (W (W (0+1)+1)+1)+1)+1)<(↑7:Int))/\bif ilt e 0 then K (.tup [.int .u64 0,.int .i64 2]) []else((0:Int)<=W (W (W (W (W (0+1)+1)+1)+1)+1)/\W (W (W (W (W (0+1)+1)+1)+1)+1)<(↑7:Int))/\(0:Int)<=(3:Int)/\bif ile (W (1*2^min (Int.toNat 3) (IntKind.bits .i64))) e then K (.tup [.int .u64 0,.int .i64 2]) []else((0:Int)<=W (W (W (W (W (0+1)+1)+1)+1)+1)/\W (W (W (W (W (0+1)+1)+1)+1)+1)<(↑(1+1+1+1+1+1+1+1):Int))/\(0:Int)<=W (W (W (W (W (0+12)+9)+18)+9)+1)/\((0:Int)<=W (W (W (W (W (W (0+1)+1)+1)+1)+1)+1)/\W (W (W (W (W (W (0+1)+1)+1)+1)+1)+1)<(↑7:Int))/\bif ilt f 0 then K (.tup [.int .u64 0,.int .i64 2]) []else((0:Int)<=W (W (W (W (W (W (0+1)+1)+1)+1)+1)+1)/\W (W (W (W (W (W (0+1)+1)+1)+1)+1)+1)<(↑7:Int))/\(0:Int)<=(10:Int)/\bif ile (W (1*2^min (Int.toNat 10) (IntKind.bits .i64))) f then K (.tup [.int .u64 0,.int .i64 2]) []else((0:Int)<=W (W (W (W (W (W (0+1)+1)+1)+1)+1)+1)/\W (W (W (W (W (W (0+1)+1)+1)+1)+1)+1)<(↑(1+1+1+1+1+1+1+1):Int))/\(0:Int)<=W (W (W (W (W (W (0+12)+9)+18)+9)+1)+3)/\K (.tup [.int .u64 (WU (↑(BitVec.toNat (BitVec.ofInt (IntKind.bits .u64) (WU (↑(BitVec.toNat (BitVec.ofInt (IntKind.bits .u64) (WU (↑(BitVec.toNat (BitVec.ofInt (IntKind.bits .u64) (WU (↑(BitVec.toNat (BitVec.ofInt (IntKind.bits .u64) (WU (↑(BitVec.toNat (BitVec.ofInt (IntKind.bits .u64) (WU (↑(BitVec.toNat (BitVec.ofInt (IntKind.bits .u64) (WU (↑(BitVec.toNat (BitVec.ofInt (IntKind.bits .u64) 0|||BitVec.ofInt (IntKind.bits .u64) (WU (WU a*2^min (Int.toNat 0) (IntKind.bits .u64))))):Int))|||BitVec.ofInt (IntKind.bits .u64) (WU (WU b*2^min (Int.toNat (W (0+12))) (IntKind.bits .u64))))):Int))|||BitVec.ofInt (IntKind.bits .u64) (WU (WU c*2^min (Int.toNat (W (W (0+12)+9))) (IntKind.bits .u64))))):Int))|||BitVec.ofInt (IntKind.bits .u64) (WU (WU d*2^min (Int.toNat (W (W (W (0+12)+9)+18))) (IntKind.bits .u64))))):Int))|||BitVec.ofInt (IntKind.bits .u64) (WU (WU 1*2^min (Int.toNat (W (W (W (W (0+12)+9)+18)+9))) (IntKind.bits .u64))))):Int))|||BitVec.ofInt (IntKind.bits .u64) (WU (WU e*2^min (Int.toNat (W (W (W (W (W (0+12)+9)+18)+9)+1))) (IntKind.bits .u64))))):Int))|||BitVec.ofInt (IntKind.bits .u64) (WU (WU f*2^min (Int.toNat (W (W (W (W (W (W (0+12)+9)+18)+9)+1)+3))) (IntKind.bits .u64))))):Int)),.int .i64 0]) []else((0:Int)<=(0:Int)/\(0:Int)<(↑7:Int))/\bif ilt a 0 then K (.tup [.int .u64 0,.int .i64 2]) []else((0:Int)<=(0:Int)/\(0:Int)<(↑7:Int))/\(0:Int)<=(12:Int)/\bif ile (W (1*2^min (Int.toNat 12) (IntKind.bits .i64))) a then K (.tup [.int .u64 0,.int .i64 2]) []else((0:Int)<=(0:Int)/\(0:Int)<(↑(1+1+1+1+1+1+1+1):Int))/\(0:Int)<=(0:Int)/\((0:Int)<=W (0+1)/\W (0+1)<(↑7:Int))/\bif ilt b 0 then K (.tup [.int .u64 0,.int .i64 2]) []else((0:Int)<=W (0+1)/\W (0+1)<(↑7:Int))/\(0:Int)<=(9:Int)/\bif ile (W (1*2^min (Int.toNat 9) (IntKind.bits .i64))) b then K (.tup [.int .u64 0,.int .i64 2]) []else((0:Int)<=W (0+1)/\W (0+1)<(↑(1+1+1+1+1+1+1+1):Int))/\(0:Int)<=W (0+12)/\((0:Int)<=W (W (0+1)+1)/\W (W (0+1)+1)<(↑7:Int))/\bif ilt c 0 then K (.tup [.int .u64 0,.int .i64 2]) []else((0:Int)<=W (W (0+1)+1)/\W (W (0+1)+1)<(↑7:Int))/\(0:Int)<=(18:Int)/\bif ile (W (1*2^min (Int.toNat 18) (IntKind.bits .i64))) c then K (.tup [.int .u64 0,.int .i64 2]) []else((0:Int)<=W (W (0+1)+1)/\W (W (0+1)+1)<(↑(1+1+1+1+1+1+1+1):Int))/\(0:Int)<=W (W (0+12)+9)/\((0:Int)<=W (W (W (0+1)+1)+1)/\W (W (W (0+1)+1)+1)<(↑7:Int))/\bif ilt d 0 then K (.tup [.int .u64 0,.int .i64 2]) []else((0:Int)<=W (W (W (0+1)+1)+1)/\W (W (W (0+1)+1)+1)<(↑7:Int))/\(0:Int)<=(9:Int)/\bif ile (W (1*2^min (Int.toNat 9) (IntKind.bits .i64))) d then K (.tup [.int .u64 0,.int .i64 2]) []else((0:Int)<=W (W (W (0+1)+1)+1)/\W (W (W (0+1)+1)+1)<(↑(1+1+1+1+1+1+1+1):Int))/\(0:Int)<=W (W (W (0+12)+9)+18)/\((0:Int)<=W (W (W (W (0+1)+1)+1)+1)/\W (W (W (W (0+1)+1)+1)+1)<(↑7:Int))/\((0:Int)<=W (W (W (W (0+1)+1)+1)+1)/\W (W (W (W (0+1)+1)+1)+1)<(↑7:Int))/\(0:Int)<=(1:Int)/\((0:Int)<=W (W (W (W (0+1)+1)+1)+1)/\W (W (W (W (0+1)+1)+1)+1)<(↑(1+1+1+1+1+1+1+1):Int))/\(0:Int)<=W (W (W (W (0+12)+9)+18)+9)/\((0:Int)<=W (W (W (W (W (0+1)+1)+1)+1)+1)/\W (W (W (W (W (0+1)+1)+1)+1)+1)<(↑7:Int))/\bif ilt e 0 then K (.tup [.int .u64 0,.int .i64 2]) []else((0:Int)<=W (W (W (W (W (0+1)+1)+1)+1)+1)/\W (W (W (W (W (0+1)+1)+1)+1)+1)<(↑7:Int))/\(0:Int)<=(3:Int)/\bif ile (W (1*2^min (Int.toNat 3) (IntKind.bits .i64))) e then K (.tup [.int .u64 0,.int .i64 2]) []else((0:Int)<=W (W (W (W (W (0+1)+1)+1)+1)+1)/\W (W (W (W (W (0+1)+1)+1)+1)+1)<(↑(1+1+1+1+1+1+1+1):Int))/\(0:Int)<=W (W (W (W (W (0+12)+9)+18)+9)+1)/\((0:Int)<=W (W (W (W (W (W (0+1)+1)+1)+1)+1)+1)/\W (W (W (W (W (W (0+1)+1)+1)+1)+1)+1)<(↑7:Int))/\bif ilt f 0 then K (.tup [.int .u64 0,.int .i64 2]) []else((0:Int)<=W (W (W (W (W (W (0+1)+1)+1)+1)+1)+1)/\W (W (W (W (W (W (0+1)+1)+1)+1)+1)+1)<(↑7:Int))/\(0:Int)<=(10:Int)/\bif ile (W (1*2^min (Int.toNat 10) (IntKind.bits .i64))) f then K (.tup [.int .u64 0,.int .i64 2]) []else((0:Int)<=W (W (W (W (W (W (0+1)+1)+1)+1)+1)+1)/\W (W (W (W (W (W (0+1)+1)+1)+1)+1)+1)<(↑(1+1+1+1+1+1+1+1):Int))/\(0:Int)<=W (W (W (W (W (W (0+12)+9)+18)+9)+1)+3)/\K (.tup [.int .u64 (WU (↑(BitVec.toNat (BitVec.ofInt (IntKind.bits .u64) (WU (↑(BitVec.toNat (BitVec.ofInt (IntKind.bits .u64) (WU (↑(BitVec.toNat (BitVec.ofInt (IntKind.bits .u64) (WU (↑(BitVec.toNat (BitVec.ofInt (IntKind.bits .u64) (WU (↑(BitVec.toNat (BitVec.ofInt (IntKind.bits .u64) (WU (↑(BitVec.toNat (BitVec.ofInt (IntKind.bits .u64) (WU (↑(BitVec.toNat (BitVec.ofInt (IntKind.bits .u64) 0|||BitVec.ofInt (IntKind.bits .u64) (WU (WU a*2^min (Int.toNat 0) (IntKind.bits .u64))))):Int))|||BitVec.ofInt (IntKind.bits .u64) (WU (WU b*2^min (Int.toNat (W (0+12))) (IntKind.bits .u64))))):Int))|||BitVec.ofInt (IntKind.bits .u64) (WU (WU c*2^min (Int.toNat (W (W (0+12)+9))) (IntKind.bits .u64))))):Int))|||BitVec.ofInt (IntKind.bits .u64) (WU (WU d*2^min (Int.toNat (W (W (W (0+12)+9)+18))) (IntKind.bits .u64))))):Int))|||BitVec.ofInt (IntKind.bits .u64) (WU (WU 0*2^min (Int.toNat (W (W (W (W (0+12)+9)+18)+9))) (IntKind.bits .u64))))):Int))|||BitVec.ofInt (IntKind.bits .u64) (WU (WU e*2^min (Int.toNat (W (W (W (W (W (0+12)+9)+18)+9)+1))) (IntKind.bits .u64))))):Int))|||BitVec.ofInt (IntKind.bits .u64) (WU (WU f*2^min (Int.toNat (W (W (W (W (W (W (0+12)+9)+18)+9)+1)+3))) (IntKind.bits .u64))))):Int)),.int .i64 0]) []) (by kernel_rfl) ?_)
 have no:dOk a b c d e f=false->K (.tup [.int .u64 0,.int .i64 2]) []:=by intro h;rw [h]at hK;exact hK
 have yes:dOk a b c d e f=true->K (.tup [.int .u64 (cM a b c d m e f),.int .i64 0]) []:=by intro h;rw [h]at hK;exact hK
 clear hK hp;have w10:W (1*2^min (Int.toNat 10) (IntKind.bits .i64))=1024:=by decide
 have w12:W (1*2^min (Int.toNat 12) (IntKind.bits .i64))=4096:=by decide
 have w9:W (1*2^min (Int.toNat 9) (IntKind.bits .i64))=512:=by decide
 have w18:W (1*2^min (Int.toNat 18) (IntKind.bits .i64))=262144:=by decide
 have w3:W (1*2^min (Int.toNat 3) (IntKind.bits .i64))=8:=by decide
 rw [w10,w12,w9,w18,w3]
 simp(disch:=omega) only [W,cH,Int.reduceAdd,Int.zero_add,Int.reduceToNat]
 cases m
 ·simp only [cond_true,cond_false]
  repeat' first
   | refine⟨by omega,?_⟩
   | refine I6 (fun _=>?_) (fun _=>?_)
   | refine xM (fun _=>?_) (fun _=>?_)
  all_goals first
   | exact no (by cases h:dOk a b c d e f with
                  | false=>rfl
                  | true=>have:=p8.1 h;omega)
   | skip
  have ok:dOk a b c d e f=true:=p8.2 (by omega)
  refine cast (congrArg (fun z=>K (AVal.tup [.int .u64 z,.int .i64 0]) []) ?_) (yes ok);symm;have hb:IntKind.bits .u64 =64:=rfl;rw [hb];clear yes no ok;have q0:=gC (a:=0) (x:=0) (y:=a) (p:=1) (q:=2^min 0 64) (s:=a) (by decide) (by omega) (by omega) (by omega) (by omega) (by decide)
  have q1:=gC (a:=12) (x:=a) (y:=b) (p:=4096) (q:=2^min 12 64) (s:=a+b*4096) (by decide) (by omega) (by omega) (by omega) (by omega) (by decide)
  have q2:=gC (a:=21) (x:=a+b*4096) (y:=c) (p:=2097152) (q:=2^min 21 64) (s:=a+b*4096+c*2097152) (by decide) (by omega) (by omega) (by omega) (by omega) (by decide)
  have q3:=gC (a:=39) (x:=a+b*4096+c*2097152) (y:=d) (p:=549755813888) (q:=2^min 39 64) (s:=a+b*4096+c*2097152+d*549755813888) (by decide) (by omega) (by omega) (by omega) (by omega) (by decide)
  have q4:=gC (a:=48) (x:=a+b*4096+c*2097152+d*549755813888) (y:=0) (p:=281474976710656) (q:=2^min 48 64) (s:=a+b*4096+c*2097152+d*549755813888+0*281474976710656) (by decide) (by omega) (by omega) (by omega) (by omega) (by decide)
  have q5:=gC (a:=49) (x:=a+b*4096+c*2097152+d*549755813888+0*281474976710656) (y:=e) (p:=562949953421312) (q:=2^min 49 64) (s:=a+b*4096+c*2097152+d*549755813888+0*281474976710656+e*562949953421312) (by decide) (by omega) (by omega) (by omega) (by omega) (by decide)
  have q6:=gC (a:=52) (x:=a+b*4096+c*2097152+d*549755813888+0*281474976710656+e*562949953421312) (y:=f) (p:=4503599627370496) (q:=2^min 52 64) (s:=a+b*4096+c*2097152+d*549755813888+0*281474976710656+e*562949953421312+f*4503599627370496) (by decide) (by omega) (by omega) (by omega) (by omega) (by decide)
  simp only [WU]at q0 q1 q2 q3 q4 q5 q6⊢;rw [q0,q1,q2,q3,q4,q5,q6];unfold cM bitI;rfl
 ·simp only [cond_true,cond_false]
  repeat' first
   | refine⟨by omega,?_⟩
   | refine I6 (fun _=>?_) (fun _=>?_)
   | refine xM (fun _=>?_) (fun _=>?_)
  all_goals first
   | exact no (by cases h:dOk a b c d e f with
                  | false=>rfl
                  | true=>have:=p8.1 h;omega)
   | skip
  have ok:dOk a b c d e f=true:=p8.2 (by omega)
  refine cast (congrArg (fun z=>K (AVal.tup [.int .u64 z,.int .i64 0]) []) ?_) (yes ok);symm;have hb:IntKind.bits .u64 =64:=rfl;rw [hb];clear yes no ok;have q0:=gC (a:=0) (x:=0) (y:=a) (p:=1) (q:=2^min 0 64) (s:=a) (by decide) (by omega) (by omega) (by omega) (by omega) (by decide)
  have q1:=gC (a:=12) (x:=a) (y:=b) (p:=4096) (q:=2^min 12 64) (s:=a+b*4096) (by decide) (by omega) (by omega) (by omega) (by omega) (by decide)
  have q2:=gC (a:=21) (x:=a+b*4096) (y:=c) (p:=2097152) (q:=2^min 21 64) (s:=a+b*4096+c*2097152) (by decide) (by omega) (by omega) (by omega) (by omega) (by decide)
  have q3:=gC (a:=39) (x:=a+b*4096+c*2097152) (y:=d) (p:=549755813888) (q:=2^min 39 64) (s:=a+b*4096+c*2097152+d*549755813888) (by decide) (by omega) (by omega) (by omega) (by omega) (by decide)
  have q4:=gC (a:=48) (x:=a+b*4096+c*2097152+d*549755813888) (y:=1) (p:=281474976710656) (q:=2^min 48 64) (s:=a+b*4096+c*2097152+d*549755813888+1*281474976710656) (by decide) (by omega) (by omega) (by omega) (by omega) (by decide)
  have q5:=gC (a:=49) (x:=a+b*4096+c*2097152+d*549755813888+1*281474976710656) (y:=e) (p:=562949953421312) (q:=2^min 49 64) (s:=a+b*4096+c*2097152+d*549755813888+1*281474976710656+e*562949953421312) (by decide) (by omega) (by omega) (by omega) (by omega) (by decide)
  have q6:=gC (a:=52) (x:=a+b*4096+c*2097152+d*549755813888+1*281474976710656+e*562949953421312) (y:=f) (p:=4503599627370496) (q:=2^min 52 64) (s:=a+b*4096+c*2097152+d*549755813888+1*281474976710656+e*562949953421312+f*4503599627370496) (by decide) (by omega) (by omega) (by omega) (by omega) (by decide)
  simp only [WU]at q0 q1 q2 q3 q4 q5 q6⊢;rw [q0,q1,q2,q3,q4,q5,q6];unfold cM bitI;rfl
noncomputable def E20:=(E16.addR 190 O3 VU).addR 199 O4 VV
def gQ(a:Int):Int:=(a+1)%4096
def GC:bE Ob:=fun args h=>match args,h with
 | [.agg [.int .i64 a,.int .i64 b,.int .i64 c,.int .i64 d,.bool m,.int .i64 e,.int .i64 f]],[]=>some (0<=a/\a<=1000000,.agg [.int .i64 (gQ a),.int .i64 0,.int .i64 0,.int .i64 0,.bool false,.int .i64 1,.int .i64 0])
 | _,_=>none
theorem RH:aH.ok E20.I Tryz.prog 223 GC.spec:=by
 intro args h o ho K hK;unfold bE.spec at ho;split at ho
 case h_2=>cases ho
 rename_i pp vv hv;unfold GC at hv;split at hv
 case h_2=>cases hv
 rename_i a b c d m e f;simp only [sI',pI']at hv;obtain⟨rfl,rfl⟩:=hv;simp only [sI']at ho;subst ho;obtain⟨hp,hK⟩:=hK;have hK:K (.agg [.int .i64 (gQ a),.int .i64 0,.int .i64 0,.int .i64 0,.bool false,.int .i64 1,.int .i64 0]) []:=hK;refine aJ1 (cM' (E:=E20) (q:=K (.agg [.int .i64 (W (↑(BitVec.toNat (BitVec.ofInt (IntKind.bits .i64) (W (a+1))&&&BitVec.ofInt (IntKind.bits .i64) 4095)):Int)),.int .i64 0,.int .i64 0,.int .i64 0,.bool false,.int .i64 1,.int .i64 0]) []) (by kernel_rfl) ?_)
 refine cast (congrArg (fun z=>K (.agg [.int .i64 z,.int .i64 0,.int .i64 0,.int .i64 0,.bool false,.int .i64 1,.int .i64 0]) []) ?_) hK;show gQ a=_;have hb:IntKind.bits .i64 =64:=rfl;simp only [W];rw [hb,cH (x:=a+1) (by omega)]
 have:=jS (n:=64) (w:=12) (a+1) (by omega)
 have e:(2:Int)^12 - 1=4095:=by decide
 rw [e]at this;rw [this];have e2:(2:Int)^12=4096:=by decide
 rw [e2,cH (by omega)]
 rfl
def GS:bE Ob:=fun args h=>match args,h with
 | [.agg [.int .i64 a,.int .i64 b,.int .i64 c,.int .i64 d,.bool m,.int .i64 e,.int .i64 f]],[]=>some (True,.bool (nK e))
 | _,_=>none
theorem RY:aH.ok E8.I Tryz.prog 192 GS.spec:=by
 intro args h o ho K hK;unfold bE.spec at ho;split at ho
 case h_2=>cases ho
 rename_i pp vv hv;unfold GS at hv;split at hv
 case h_2=>cases hv
 rename_i a b c d m e f;simp only [sI',pI']at hv;obtain⟨rfl,rfl⟩:=hv;simp only [sI']at ho;subst ho;obtain⟨hp,hK⟩:=hK;have hK:K (.bool (nK e)) []:=hK;refine aJ1 (cM' (E:=E8) (q:=((0:Int)<=(0:Int)/\(0:Int)<(↑4:Int))/\bif ieq e 1 then K (.bool true) []else((0:Int)<=W (0+1)/\W (0+1)<(↑4:Int))/\bif ieq e 2 then K (.bool true) []else((0:Int)<=W (W (0+1)+1)/\W (W (0+1)+1)<(↑4:Int))/\bif ieq e 3 then K (.bool true) []else((0:Int)<=W (W (W (0+1)+1)+1)/\W (W (W (0+1)+1)+1)<(↑4:Int))/\bif ieq e 4 then K (.bool true) []else K (.bool false) []) (by kernel_rfl) ?_)
 have hb: ∀v:Bool,nK e=v->K (.bool v) []:=by intro v h;rw [<-h];exact hK
 have yes:1<=e/\e<=4->nK e=true:=by intro h;unfold nK;rw [bZ,bZ,decide_eq_true h.1,decide_eq_true h.2];rfl
 have no: ¬(1<=e/\e<=4)->nK e=false:=by
  intro h;unfold nK;rw [bZ,bZ]
  by_cases h1:1<=e
  ·rw [decide_eq_true h1,decide_eq_false (by omega)];rfl
  ·rw [decide_eq_false h1];rfl
 simp(disch:=omega) only [W,cH,Int.reduceAdd,Int.zero_add]
 repeat' first
  | refine⟨by omega,?_⟩
  | refine H1 (fun _=>?_) (fun _=>?_)
 all_goals first
  | exact hb _ (yes (by omega))
  | exact hb _ (no (by omega))
def SN:bE Ob:=fun args h=>match args,h with
 | [.agg [.int .i64 a,.int .i64 b,.int .i64 c,.int .i64 d,.bool m,.int .i64 e,.int .i64 f]],[]=>some (True,.agg [.int .i64 (resC d e),.bool (ZO d e m),.int .i64 (ZP d e f)])
 | _,_=>none
theorem ZN:aH.ok E20.I Tryz.prog 224 SN.spec:=by
 intro args h o ho K hK;unfold bE.spec at ho;split at ho
 case h_2=>cases ho
 rename_i pp vv hv;unfold SN at hv;split at hv
 case h_2=>cases hv
 rename_i a b c d m e f;simp only [sI',pI']at hv;obtain⟨rfl,rfl⟩:=hv;simp only [sI']at ho;subst ho;obtain⟨hp,hK⟩:=hK;have hK:K (.agg [.int .i64 (resC d e),.bool (ZO d e m),.int .i64 (ZP d e f)]) []:=hK;refine aJ1 (cM' (E:=E20) (q:=bif !ieq e 5 then K (.agg [.int .i64 5,.bool false,.int .i64 0]) []else bif ieq d 1 then K (.agg [.int .i64 4,.bool false,.int .i64 0]) []else K (.agg [.int .i64 0,.bool m,.int .i64 f]) []) (by kernel_rfl) ?_)
 unfold resC ZO ZP at hK;generalize ieq e 5=b1 at hK⊢;generalize ieq d 1=b2 at hK⊢;cases b1<;>cases b2<;>exact hK
def FL:bE Ob:=fun args h=>match args,h with
 | [.agg [.int .i64 a,.int .i64 b,.int .i64 c,.int .i64 d,.bool m,.int .i64 e,.int .i64 f],.agg [.int .i64 g,.bool o,.int .i64 v]],[]=>some (True,.agg [.int .i64 a,.int .i64 0,.int .i64 0,.int .i64 (bif ieq g 4 then 1 else 0),.bool o,.int .i64 5,.int .i64 v])
 | _,_=>none
theorem PO:aH.ok E20.I Tryz.prog 200 FL.spec:=by
 intro args h o ho K hK;unfold bE.spec at ho;split at ho
 case h_2=>cases ho
 rename_i pp vv hv;unfold FL at hv;split at hv
 case h_2=>cases hv
 rename_i a b c d m e f g o v;simp only [sI',pI']at hv;obtain⟨rfl,rfl⟩:=hv;simp only [sI']at ho;subst ho;obtain⟨hp,hK⟩:=hK;have hK:K (.agg [.int .i64 a,.int .i64 0,.int .i64 0,.int .i64 (bif ieq g 4 then 1 else 0),.bool o,.int .i64 5,.int .i64 v]) []:=hK;refine aJ1 (cM' (E:=E20) (q:=bif ieq g 4 then K (.agg [.int .i64 a,.int .i64 0,.int .i64 0,.int .i64 1,.bool o,.int .i64 5,.int .i64 v]) []else K (.agg [.int .i64 a,.int .i64 0,.int .i64 0,.int .i64 0,.bool o,.int .i64 5,.int .i64 v]) []) (by kernel_rfl) ?_)
 generalize ieq g 4=b1 at hK⊢;cases b1<;>exact hK
noncomputable def E21a:=(((((E20.addR 223 GC RH).addR 192 GS RY).addR 224 SN ZN).addR 200 FL PO))
noncomputable def E21:=(E21a)
theorem mC{s k y:Int} :bR s k y=true↔(((s=1\/s=2)/\1<=k/\k<=3)\/((s=3\/s=4)/\(k=4\/k=5)))/\0<=y/\y<=999/\(k=5->y<=0):=by
 have hm:(bif ieq k 5 then(0:Int)else 999)=if k=5 then 0 else 999:=by
  rw [cI];by_cases h:k=5
  ·simp [h]
  ·have h':(k == 5)=false:=by simpa using h
   rw [h',if_neg h];rfl
 have hk:k∈eL s↔(((s=1\/s=2)/\1<=k/\k<=3)\/((s=3\/s=4)/\(k=4\/k=5))):=by
  unfold eL;rw [cI,cI,cI,cI]
  by_cases h1:s=1
  ·subst h1;simp;omega
  by_cases h2:s=2
  ·subst h2;simp;omega
  by_cases h3:s=3
  ·subst h3;simp
  by_cases h4:s=4
  ·subst h4;simp
  have g1:(s == 1)=false:=by simpa using h1
  have g2:(s == 2)=false:=by simpa using h2
  have g3:(s == 3)=false:=by simpa using h3
  have g4:(s == 4)=false:=by simpa using h4
  rw [g1,g2,g3,g4];simp [h1,h2,h3,h4]
 unfold bR;rw [Bool.and_eq_true,Bool.and_eq_true,jL,hk,bZ,bZ,dT',dT',hm]
 by_cases h5:k=5
 ·simp [h5];omega
 ·simp [h5]
def tskV(s k y:Int):Int:=s+8*k+64*y
def TG:bE Ob:=fun args h=>match args,h with
 | [.agg [.int .i64 s,.int .i64 k,.int .i64 y]],[]=>some (True,.tup [.int .u64 (bif bR s k y then tskV s k y else 0),.int .i64 (bif bR s k y then 0 else 1)])
 | _,_=>none
theorem aAf:aH.ok E21.I Tryz.prog 269 TG.spec:=by
 intro args h o ho K hK;unfold bE.spec at ho;split at ho
 case h_2=>cases ho
 rename_i pp vv hv;unfold TG at hv;split at hv
 case h_2=>cases hv
 rename_i s k y;simp only [sI',pI']at hv;obtain⟨rfl,rfl⟩:=hv;simp only [sI']at ho;subst ho;obtain⟨hp,hK⟩:=hK;have hK:K (.tup [.int .u64 (bif bR s k y then tskV s k y else 0),.int .i64 (bif bR s k y then 0 else 1)]) []:=hK;refine aJ1 (cM' (E:=E21) (q:=True/\bif !bR s k y then K (.tup [.int .u64 0,.int .i64 1]) []else(0:Int)<=(3:Int)/\(0:Int)<=(6:Int)/\K (.tup [.int .u64 (WU (W (↑(BitVec.toNat (BitVec.ofInt (IntKind.bits .i64) (W (↑(BitVec.toNat (BitVec.ofInt (IntKind.bits .i64) s|||BitVec.ofInt (IntKind.bits .i64) (W (k*2^min (Int.toNat 3) (IntKind.bits .i64))))):Int))|||BitVec.ofInt (IntKind.bits .i64) (W (y*2^min (Int.toNat 6) (IntKind.bits .i64))))):Int))),.int .i64 0]) []) (by kernel_rfl) ?_)
 refine⟨trivial,aJ (fun e=>?_) (fun e=>⟨by omega,by omega,?_⟩)⟩
 ·rw [aEi e]at hK;exact hK
 ·have e:=aEh e;rw [e]at hK;have h:=mC.1 e;refine cast (congrArg (fun z=>K (.tup [.int .u64 z,.int .i64 0]) []) ?_) hK;show tskV s k y=_;have hb:IntKind.bits .i64 =64:=rfl;rw [hb];have p3:(2:Int)^min (Int.toNat 3) 64=2^3:=by decide
  have p6:(2:Int)^min (Int.toNat 6) 64=2^6:=by decide
  have v3:(2:Int)^3=8:=by decide
  have v6:(2:Int)^6=64:=by decide
  have v64:(2:Int)^64=18446744073709551616:=by decide
  rw [p3,p6];have q1:=vM (n:=64) (a:=3) (x:=s) (y:=k) (by omega) (by omega) (by omega)
  have w1:W (k*2^3)=k*2^3:=yC (by omega)
  rw [w1,q1];have w2:W (s+k*2^3)=s+k*2^3:=yC (by omega)
  have w3:W (y*2^6)=y*2^6:=yC (by omega)
  have q2:=vM (n:=64) (a:=6) (x:=s+k*2^3) (y:=y) (by omega) (by omega) (by omega)
  rw [w2,w3,q2];have w4:W (s+k*2^3+y*2^6)=s+k*2^3+y*2^6:=yC (by omega)
  have w5:WU (s+k*2^3+y*2^6)=s+k*2^3+y*2^6:=mQ (by omega)
  rw [w4,w5,v3,v6];unfold tskV;omega
def aEc:bE Ob:=fun args h=>match args,h with
 | [.int .i64 s,.agg [.int .i64 k,.int .i64 y]],[]=>some (True,.bool (bR s k y))
 | _,_=>none
theorem aEd:aH.ok E21.I Tryz.prog 125 aEc.spec:=by
 intro args h o ho K hK;unfold bE.spec at ho;split at ho
 case h_2=>cases ho
 rename_i pp vv hv;unfold aEc at hv;split at hv
 case h_2=>cases hv
 rename_i s k y;simp only [sI',pI']at hv;obtain⟨rfl,rfl⟩:=hv;simp only [sI']at ho;subst ho;obtain⟨hp,hK⟩:=hK;have hK:K (.bool (bR s k y)) []:=hK;refine aJ1 (cM' (E:=E21) (q:=bif ilt y 0 then K (.bool false) []else bif ilt 999 y then K (.bool false) []else bif ieq s 1 then bif ile 1 k then K (.bool (ile k 3)) []else K (.bool false) []else bif ieq s 2 then bif ile 1 k then K (.bool (ile k 3)) []else K (.bool false) []else bif ieq s 3 then bif ieq k 4 then K (.bool true) []else bif ieq k 5 then K (.bool (ieq y 0)) []else K (.bool false) []else bif ieq s 4 then bif ieq k 4 then K (.bool true) []else bif ieq k 5 then K (.bool (ieq y 0)) []else K (.bool false) []else K (.bool false) []) (by kernel_rfl) ?_)
 have hb: ∀v:Bool,bR s k y=v->K (.bool v) []:=by intro v h;rw [<-h];exact hK
 have yes:=(mC (s:=s) (k:=k) (y:=y)).2
 have no: ¬((((s=1\/s=2)/\1<=k/\k<=3)\/((s=3\/s=4)/\(k=4\/k=5)))/\0<=y/\y<=999/\(k=5->y<=0))->bR s k y=false:=by
  intro h;cases e:bR s k y with
  | false=>rfl
  | true=>exact(h (mC.1 e)).elim
 have hle: ∀a b:Int,K (.bool (ile a b)) []\/ ¬K (.bool (ile a b)) []:=fun _ _=>Classical.em _
 repeat' first
  | refine I6 (fun _=>?_) (fun _=>?_)
  | refine xM (fun _=>?_) (fun _=>?_)
  | refine H1 (fun _=>?_) (fun _=>?_)
 all_goals first
  | exact hb _ (no (by omega))
  | exact hb _ (yes (by omega))
  | (rw [bZ];by_cases c:k<=3
     ·rw [decide_eq_true c];exact hb _ (yes (by omega))
     ·rw [decide_eq_false c];exact hb _ (no (by omega)))
  | (rw [cI];by_cases c:y=0
     ·subst c;exact hb _ (yes (by omega))
     ·have c':(y == 0)=false:=by simpa using c
      rw [c'];exact hb _ (no (by omega)))
noncomputable def E22a:=((E21.addR 269 TG aAf)).addR 125 aEc aEd
def iR(x:Int):Bool:=ilt x 65536&&bR (aB x 0 3) (aB x 3 3) (aB x 6 10)
theorem yO{z:Int}(w:Nat)(hw:w<=61){c:Int}(hc:c=2^w - 1):IntKind.wrap .i64 (IntKind.wrap .u64 ((BitVec.ofInt 64 z&&&BitVec.ofInt 64 c).toNat :Int))=z%2^w:=by
 subst hc;rw [jS _ (by omega)]
 have h4:=jF w;have h3:(2:Int)^w<=2305843009213693952:=zX (n:=61) hw (by decide)
 have h6:=Int.emod_nonneg z (b:=2^w) (by omega)
 have h7:=Int.emod_lt_of_pos z (b:=2^w) (by omega)
 rw [mQ (by omega),cH (by omega)]
def TB:bE Ob:=fun args h=>match args,h with
 | [.int .u64 x],[]=>some (0<=x/\x<=18446744073709551615,.tup [.agg [.int .i64 (bif iR x then aB x 0 3 else 0),.int .i64 (bif iR x then aB x 3 3 else 0),.int .i64 (bif iR x then aB x 6 10 else 0)],.int .i64 (bif iR x then 0 else 3)])
 | _,_=>none
theorem aAa:aH.ok E22a.I Tryz.prog 245 TB.spec:=by
 intro args h o ho K hK;unfold bE.spec at ho;split at ho
 case h_2=>cases ho
 rename_i pp vv hv;unfold TB at hv;split at hv
 case h_2=>cases hv
 rename_i x;simp only [sI',pI']at hv;obtain⟨rfl,rfl⟩:=hv;simp only [sI']at ho;subst ho;obtain⟨hp,hK⟩:=hK;have hK:K (.tup [.agg [.int .i64 (bif iR x then aB x 0 3 else 0),.int .i64 (bif iR x then aB x 3 3 else 0),.int .i64 (bif iR x then aB x 6 10 else 0)],.int .i64 (bif iR x then 0 else 3)]) []:=hK;refine aJ1 (cM' (E:=E22a) (q:=(0:Int)<=(3:Int)/\(0:Int)<=(6:Int)/\(0:Int)<=(16:Int)/\bif !ieq (Int.fdiv x (2^min (Int.toNat 16) (IntKind.bits .u64))) 0 then K (.tup [.agg [.int .i64 0,.int .i64 0,.int .i64 0],.int .i64 3]) []else True/\bif !bR (W (WU (↑(BitVec.toNat (BitVec.ofInt (IntKind.bits .u64) x&&&BitVec.ofInt (IntKind.bits .u64) 7)):Int))) (W (WU (↑(BitVec.toNat (BitVec.ofInt (IntKind.bits .u64) (Int.fdiv x (2^min (Int.toNat 3) (IntKind.bits .u64)))&&&BitVec.ofInt (IntKind.bits .u64) 7)):Int))) (W (WU (↑(BitVec.toNat (BitVec.ofInt (IntKind.bits .u64) (Int.fdiv x (2^min (Int.toNat 6) (IntKind.bits .u64)))&&&BitVec.ofInt (IntKind.bits .u64) 1023)):Int)))then K (.tup [.agg [.int .i64 0,.int .i64 0,.int .i64 0],.int .i64 3]) []else K (.tup [.agg [.int .i64 (W (WU (↑(BitVec.toNat (BitVec.ofInt (IntKind.bits .u64) x&&&BitVec.ofInt (IntKind.bits .u64) 7)):Int))),.int .i64 (W (WU (↑(BitVec.toNat (BitVec.ofInt (IntKind.bits .u64) (Int.fdiv x (2^min (Int.toNat 3) (IntKind.bits .u64)))&&&BitVec.ofInt (IntKind.bits .u64) 7)):Int))),.int .i64 (W (WU (↑(BitVec.toNat (BitVec.ofInt (IntKind.bits .u64) (Int.fdiv x (2^min (Int.toNat 6) (IntKind.bits .u64)))&&&BitVec.ofInt (IntKind.bits .u64) 1023)):Int)))],.int .i64 0]) []) (by kernel_rfl) ?_)
 have hb:IntKind.bits .u64 =64:=rfl;have p3:(2:Int)^min (Int.toNat 3) 64=8:=by decide
 have p6:(2:Int)^min (Int.toNat 6) 64=64:=by decide
 have p16:(2:Int)^min (Int.toNat 16) 64=65536:=by decide
 have c0:aB x 0 3=x%2^3:=by unfold aB;show x / 1%8=x%8;omega
 have c1:aB x 3 3=Int.fdiv x 8%2^3:=by rw [Int.fdiv_eq_ediv_of_nonneg _ (by omega)];rfl
 have c2:aB x 6 10=Int.fdiv x 64%2^10:=by rw [Int.fdiv_eq_ediv_of_nonneg _ (by omega)];rfl
 rw [hb,p3,p6,p16];simp only [W,WU];rw [yO (z:=x) 3 (by omega) (c:=7) (by decide),yO (z:=Int.fdiv x 8) 3 (by omega) (c:=7) (by decide),yO (z:=Int.fdiv x 64) 10 (by omega) (c:=1023) (by decide),<-c0,<-c1,<-c2]
 unfold iR at hK
 have e16:ieq (Int.fdiv x 65536) 0=ilt x 65536:=by
  rw [Int.fdiv_eq_ediv_of_nonneg _ (by omega),cI,bI]
  by_cases h:x<65536
  ·rw [decide_eq_true h];simp;omega
  ·rw [decide_eq_false h];simp;omega
 rw [e16];generalize ilt x 65536=b1 at hK⊢;generalize bR (aB x 0 3) (aB x 3 3) (aB x 6 10)=b2 at hK⊢;refine⟨by omega,by omega,by omega,?_⟩
 cases b1<;>cases b2<;>first | exact hK | exact⟨trivial,hK⟩
noncomputable def E22b:=(E22a.addR 245 TB aAa)
def recNewS:aH Ob:=fun args h=>match args,h with
 | [.agg [.int .i64 t,.int .i64 n],.int .i64 me,.agg [.int .i64 s,.int .i64 k,.int .i64 y]],[]=>some (.ret (.ptr 0 0) [some (.cells [.int .i64 t,.int .i64 n,.int .u64 0,.int .i64 me,.int .i64 0,.int .u64 (bif bR s k y then tskV s k y else 0),.bool (!bR s k y),.int .u64 0])])
 | _,_=>none
theorem MT:aH.ok E22b.I Tryz.prog 220 recNewS:=by
 intro args h o ho K hK;unfold recNewS at ho;split at ho<;>cases ho
 rename_i t n me s k y;have hK:K (.ptr 0 0) [some (.cells [.int .i64 t,.int .i64 n,.int .u64 0,.int .i64 me,.int .i64 0,.int .u64 (bif bR s k y then tskV s k y else 0),.bool (!bR s k y),.int .u64 0])]:=hK;refine aJ1 (cM' (E:=E22b) (q:=True/\K (.ptr 0 0) [some (.cells [.int .i64 t,.int .i64 n,.int .u64 0,.int .i64 me,.int .i64 0,.int .u64 (bif bR s k y then tskV s k y else 0),.bool !ieq (bif bR s k y then 0 else 1) 0,.int .u64 0])]) (by kernel_rfl) ?_)
 generalize bR s k y=b at hK⊢;refine⟨trivial,?_⟩;cases b<;>exact hK
noncomputable def E22:=(E22b.addS 220 recNewS MT)
noncomputable def E23:=E22
noncomputable def E24:=(((((E23)))))
def guardNewS:aH Ob:=fun args h=>match args,h with
 | [.agg [.int .i64 t,.int .i64 n],.slice 0 0 k 1],[some (.ints (some .i64) xs)]=>some (.pre (k=xs.length/\k<=1000000) (.ret (.ptr 1 0) [some (.ints (some .i64) xs),some (.cells [.int .i64 t,.int .i64 n,.raw (.slice none 0 0),.raw (.slice none 0 0),.slice 2 0 xs.length 1,.map 3,.int .i64 0,.raw (.pointer none)]),some (.ints (some .i64) xs),some (.imap .i64 none [])]))
 | _,_=>none
theorem CA:aH.ok E24.I Tryz.prog 234 guardNewS:=by
 intro args h o ho K hK;unfold guardNewS at ho;split at ho<;>cases ho
 rename_i t n k xs;obtain⟨⟨rfl,hp⟩,hK⟩:=hK;refine aJ1 (cM' (E:=E24) (q:=((lE' xs/\xs.length<=(4294967296:Nat))/\True)/\K (.ptr 1 0) [some (.ints (some .i64) xs),some (.cells [.int .i64 t,.int .i64 n,.raw (Value.slice none 0 0),.raw (Value.slice none 0 0),.slice 2 0 xs.length 1,.map 3,.int .i64 0,.raw (Value.pointer none)]),some (.ints (some .i64) xs),some (.imap .i64 none [])]) (by kernel_rfl) ?_)
 exact⟨⟨⟨rfl,by omega⟩,trivial⟩,hK⟩
def backS:aH Ob:=fun args h=>match args,h with
 | [.agg [.int .i64 t,.int .i64 n],.slice 0 0 k 1],[some (.ints (some .i64) xs)]=>some (.pre (k=xs.length/\k<=1000000) (.ret (.ptr 1 0) [some (.ints (some .i64) xs),some (.cells [.int .i64 t,.int .i64 n,.slice 2 0 xs.length 1]),some (.ints (some .i64) xs)]))
 | _,_=>none
theorem VC:aH.ok E24.I Tryz.prog 295 backS:=by
 intro args h o ho K hK;unfold backS at ho;split at ho<;>cases ho
 rename_i t n k xs;obtain⟨⟨rfl,hp⟩,hK⟩:=hK;refine aJ1 (cM' (E:=E24) (q:=((lE' xs/\xs.length<=(4294967296:Nat))/\True)/\K (.ptr 1 0) [some (.ints (some .i64) xs),some (.cells [.int .i64 t,.int .i64 n,.slice 2 0 xs.length 1]),some (.ints (some .i64) xs)]) (by kernel_rfl) ?_)
 exact⟨⟨⟨rfl,by omega⟩,trivial⟩,hK⟩
noncomputable def E35a:=(E24.addS 234 guardNewS CA).addS 295 backS VC
def mhas(m:List (Int×Int))(n:Int):Bool:=!ieq (Option.getD (mget m n) 0) 0
def cF(m:List (Int×Int))(xs:List Int):List Int:=xs.filter (mhas m)
def aS(m:List (Int×Int))(xs:List Int):List Int:=xs.filter (fun n=>!mhas m n)
structure aHj (m:List (Int×Int)) (xs:List Int) (x:Nat×List Int×List Int):Prop where
 h1:x.1<=xs.length
 h2:x.2.1=cF m (xs.take x.1)
 h3:x.2.2=aS m (xs.take x.1)
def DT(t n at':Int)(m:List (Int×Int))(xs:List Int):Hint Ob:= {X:=Nat×List Int×List Int,st:=fun x=>([.ptr 0 0,.O,.O,.O,.O,.O,.O,.O,.slice 1 0 xs.length 1,.int .i64 (xs.length:Int),.int .i64 (x.1:Int)]++List.replicate 48 .O,[some (.cells [.int .i64 t,.int .i64 n,.slice 3 0 x.2.1.length 1,.slice 4 0 x.2.2.length 1,.slice 1 0 xs.length 1,.map 2,.int .i64 at',.raw (.pointer none)]),some (.ints (some .i64) xs),some (.imap .i64 none m),some (.ints (some .i64) x.2.1),some (.ints (some .i64) x.2.2)]),ok:=aHj m xs,mu:=fun x=>xs.length - x.1,keep:=[0,8,9,10],casts:=[(.cell 0 2,.ints (some .i64)),(.cell 0 3,.ints (some .i64))] }
def partsS:aH Ob:=fun args h=>match args,h with
 | [.ptr 0 0],[some (.cells [.int .i64 t,.int .i64 n,.raw (.slice none 0 0),.raw (.slice none 0 0),.slice 1 0 k 1,.map 2,.int .i64 at',.raw (.pointer none)]),some (.ints (some .i64) xs),some (.imap .i64 none m)]=>some (.pre (k=xs.length/\k<=1000000) (.ret (.bool (ieq ((aS m xs).length :Int) 0)) [some (.cells [.int .i64 t,.int .i64 n,.slice 3 0 (cF m xs).length 1,.slice 4 0 (aS m xs).length 1,.slice 1 0 xs.length 1,.map 2,.int .i64 at',.ptr 5 0]),some (.ints (some .i64) xs),some (.imap .i64 none m),some (.ints (some .i64) (cF m xs)),some (.ints (some .i64) (aS m xs)),some (.cells [.int .i64 t,.int .i64 n,.slice 6 0 (aS m xs).length 1]),some (.ints (some .i64) (aS m xs))]))
 | _,_=>none
theorem uZ(p:Int->Bool)(xs:List Int):(xs.filter p).length <=xs.length:=List.length_filter_le p xs
theorem RX:aH.ok E35a.I Tryz.prog 275 partsS:=by
 intro args h o ho K hK;unfold partsS at ho;split at ho<;>cases ho
 rename_i t n k at' xs m;obtain⟨⟨rfl,hp⟩,hK⟩:=hK;refine aJ1 (aD (E:=E35a) Tryz.checked.mixed (L:=fun _ _=>some (.states (DT t n at' m xs))) (n:=10) (aK (q:=dJ (DT t n at' m xs) (Hint.ok (DT t n at' m xs)) (.ptr 0 0::.O::.O::.O::.O::.O::.O::.O::.slice 1 0 xs.length 1::.int .i64 (↑xs.length:Int)::.int .i64 0::(tO' 48 [])) [some (.cells [.int .i64 t,.int .i64 n,.slice 3 0 0 1,.slice 4 0 0 1,.slice 1 0 xs.length 1,.map 2,.int .i64 at',.raw (Value.pointer none)]),some (.ints (some .i64) xs),some (.imap .i64 none m),some (.ints (some .i64) []),some (.ints (some .i64) [])]/\ ∀(x:(Nat×List Int×List Int)),aHj m xs x->bif ilt (↑x.1:Int) (↑xs.length:Int)then((0:Int)<=(↑x.1:Int)/\(↑x.1:Int)<(↑xs.length:Int))/\0+Int.toNat (↑x.1:Int)*(1:Nat)<xs.length/\bif !ieq (Option.getD (mget m (List.getD xs (0+Int.toNat (↑x.1:Int)*1) 0)) 0) 0 then(0=0/\lE' (Prod.snd x).1/\1=1/\List.length (Prod.snd x).1+(1:Nat)<=(4294967296:Nat))/\dJ (DT t n at' m xs) (fun x'=>Hint.ok (DT t n at' m xs) x'/\Hint.mu (DT t n at' m xs) x'<Hint.mu (DT t n at' m xs) x) (.ptr 0 0::.O::.O::.O::.O::.O::.O::.O::.slice 1 0 xs.length 1::.int .i64 (↑xs.length:Int)::.int .i64 (W ((↑x.1:Int)+1))::(tO' 48 [])) [some (.cells [.int .i64 t,.int .i64 n,.slice 3 0 (List.length (Prod.snd x).1+1) 1,.slice 4 0 (List.length (Prod.snd x).2) 1,.slice 1 0 xs.length 1,.map 2,.int .i64 at',.raw (Value.pointer none)]),some (.ints (some .i64) xs),some (.imap .i64 none m),some (.ints (some .i64) ((Prod.snd x).1++ [List.getD xs (0+Int.toNat (↑x.1:Int)*1) 0])),some (.ints (some .i64) (Prod.snd x).2)]else(0=0/\lE' (Prod.snd x).2/\1=1/\List.length (Prod.snd x).2+(1:Nat)<=(4294967296:Nat))/\dJ (DT t n at' m xs) (fun x'=>Hint.ok (DT t n at' m xs) x'/\Hint.mu (DT t n at' m xs) x'<Hint.mu (DT t n at' m xs) x) (.ptr 0 0::.O::.O::.O::.O::.O::.O::.O::.slice 1 0 xs.length 1::.int .i64 (↑xs.length:Int)::.int .i64 (W ((↑x.1:Int)+1))::(tO' 48 [])) [some (.cells [.int .i64 t,.int .i64 n,.slice 3 0 (List.length (Prod.snd x).1) 1,.slice 4 0 (List.length (Prod.snd x).2+1) 1,.slice 1 0 xs.length 1,.map 2,.int .i64 at',.raw (Value.pointer none)]),some (.ints (some .i64) xs),some (.imap .i64 none m),some (.ints (some .i64) (Prod.snd x).1),some (.ints (some .i64) ((Prod.snd x).2++ [List.getD xs (0+Int.toNat (↑x.1:Int)*1) 0]))]else((lE' (Prod.snd x).2/\List.length (Prod.snd x).2<=(1000000:Nat))/\True)/\K (.bool (ieq (↑(List.length (Prod.snd x).2):Int) 0)) [some (.cells [.int .i64 t,.int .i64 n,.slice 3 0 (List.length (Prod.snd x).1) 1,.slice 4 0 (List.length (Prod.snd x).2) 1,.slice 1 0 xs.length 1,.map 2,.int .i64 at',.ptr 5 0]),some (.ints (some .i64) xs),some (.imap .i64 none m),some (.ints (some .i64) (Prod.snd x).1),some (.ints (some .i64) (Prod.snd x).2),some (.cells [.int .i64 t,.int .i64 n,.slice 6 0 (List.length (Prod.snd x).2) 1]),some (.ints (some .i64) (Prod.snd x).2)]) (by kernel_rfl) ?_))
 refine⟨aR (H:=DT t n at' m xs) ((0:Nat),([]:List Int),([]:List Int)) rfl ⟨Nat.zero_le _,rfl,rfl⟩,?_⟩;rintro⟨i,ks,fs⟩ ⟨h1,h2,h3⟩;dsimp only at h1 h2 h3⊢;refine I6 (fun hi=>?_) (fun hi=>?_)
 ·have hi':i<xs.length:=by omega
  have e2:0+(i:Int).toNat *1=i:=by omega
  have hg:xs.getD i 0=xs[i]:=by rw [gD',gE' hi'];rfl
  have e4:W ((i:Int)+1)=((i+1:Nat):Int):=by rw [yC (by omega)];rfl
  have hk:cF m (xs.take (i+1))=ks++(bif mhas m xs[i]then [xs[i]]else []):=by
   rw [h2];unfold cF;rw [List.take_succ_eq_append_getElem hi',List.filter_append];cases hm:mhas m xs[i]<;>simp [hm]
  have hf:aS m (xs.take (i+1))=fs++(bif mhas m xs[i]then []else [xs[i]]):=by
   rw [h3];unfold aS;rw [List.take_succ_eq_append_getElem hi',List.filter_append];cases hm:mhas m xs[i]<;>simp [hm]
  have hkl:ks.length<=xs.length:=by rw [h2];exact Nat.le_trans (uZ _ _) (by simp;omega)
  have hfl:fs.length<=xs.length:=by rw [h3];exact Nat.le_trans (uZ _ _) (by simp;omega)
  have hmu:xs.length - (i+1)<xs.length - i:=by omega
  rw [e2,e4,hg];have hd:(!ieq (Option.getD (mget m xs[i]) 0) 0)=mhas m xs[i]:=rfl;rw [hd];refine⟨by omega,by omega,aJ (fun hm=>⟨⟨rfl,rfl,rfl,by omega⟩,?_⟩) (fun hm=>⟨⟨rfl,rfl,rfl,by omega⟩,?_⟩)⟩
  ·rw [hm]at hk hf;simp only [cond_true,List.append_nil]at hk hf;exact aR (H:=DT t n at' m xs) ((i+1:Nat),ks++ [xs[i]],fs) (by simp only [DT,List.length_append]<;>rfl) ⟨⟨hi',hk.symm,hf.symm⟩,hmu⟩
  ·rw [hm]at hk hf;simp only [cond_false,List.append_nil]at hk hf;exact aR (H:=DT t n at' m xs) ((i+1:Nat),ks,fs++ [xs[i]]) (by simp only [DT,List.length_append]<;>rfl) ⟨⟨hi',hk.symm,hf.symm⟩,hmu⟩
 ·rw [List.take_of_length_le (by omega)]at h2 h3
  subst h2 h3;have:=uZ (fun n=>!mhas m n) xs;refine⟨⟨⟨rfl,?_⟩,trivial⟩,hK⟩;show(aS m xs).length <=1000000;unfold aS;omega
noncomputable def E35:=E35a.addS 275 partsS RX
end Go.Sh
