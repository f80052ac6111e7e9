import Derived.Test.YteindpciaceeeaaGreatRows
import Derived.IntWalk
import Derived.Test.YteindpciaceeeaaGreatZSh37ctoSh37e
set_option linter.all false
set_option maxHeartbeats 8000000
namespace Go.Sh
open Go Go.Proofs
variable [Con]
abbrev lE'{α:Type}(a:List α):Prop:=a.length=List.length a
abbrev cK9:List Code1:=[some .i64,some .i64,some .i64,some .i64,some .i64,some .i64,some .i64,none,some .i64]
abbrev cK7:List Code1:=[some .i64,none,some .i64,some .i64,some .i64,none,some .i64]
abbrev cK3:List Code1:=[some .i64,some .i64,some .i64]
abbrev tO'(n:Nat)(l:List AVal):List AVal:=List.replicate n .O++l
abbrev AVal.I(n:Int):AVal:=.int .i64 n
abbrev AVal.N:AVal:=.raw (.pointer none)
abbrev W(x:Int):Int:=IntKind.wrap IntKind.i64 x
abbrev WU(x:Int):Int:=IntKind.wrap IntKind.u64 x
theorem cG{x:Int}(h: -9223372036854775808<=x/\x<=9223372036854775807):IntKind.wrap IntKind.i64 x=x:=IntWalk.i64_in x h
structure MS where
 t:Int
 n:Int
 xs:List Int
 c:Int
 k:Int
 a:Int
 o:Int
 w:Int
 ok:Bool
structure AL where
 got:Int
 at':Int
 left:Int
 found:Int
 free:Bool
structure SWS where
 ph:Nat
 N:List Int
 m:List (Int×Int)
 i:Int
 ks:List Int
 fs:List Int
 gs:List Int
 j:Nat
 l:Nat
structure ENS where
 ph:Nat
 sh:Bool
 dn:Bool
 x:AL
 y:SWS
structure STS where
 me:Int
 sp:Int
 R:List Int
structure PLN where
 now:Bool
 code:Int
 okk:Bool
 val:Int
 addr:Int
 old:Int
 nxt:Int
 mark:Bool
 pops:Int
structure CLS where
 addr:Int
 at':Int
 word:Int
 found:Int
structure PRS where
 key:Int
 nxt:Int
 found:Int
 loaded:Bool
structure HDS where
 u:Int
 no:Int
 at':Int
 tk:Bool
structure DRS where
 th:Int
 at':Int
structure ANS where
 no:Int
 me:Int
 at':Int
 bits:Int
 wrong:Bool
 found:Int
structure AWS where
 code:Int
 okk:Bool
 val:Int
 me:Int
structure EXS where
 popped:Int
 gave:Int
 u:Int
 sh:Int
 kd:Int
 ky:Int
 only:Bool
 att:Int
 at':Int
 found:Int
 word:Int
structure FNS where
 pred:Int
 pw:Int
 curr:Int
 cw:Int
 tries:Int
 ul:List Int
 ab:Bool
 me:Int
 frm:Int
 key:Int
 limit:Int
 at':Int
 moved:Int
 cl:CLS
structure FTS where
 code:Int
 okk:Bool
 val:Int
 failed:Bool
 tries:Int
 sh:Int
 kd:Int
 ky:Int
 most:Int
 at':Int
 p:PLN
 fn:FNS
 cl:CLS
 pr:PRS
structure HPS where
 u:Int
 no:Int
 rounds:Int
 limit:Int
 at':Int
 found:Int
 sh:Int
 kd:Int
 ky:Int
 p:PLN
 ex:EXS
 en:ENS
 fn:FNS
 cl:CLS
 pr:PRS
structure DOS where
 code:Int
 okk:Bool
 val:Int
 slow:Bool
 sh:Int
 kd:Int
 ky:Int
 limit:Int
 at':Int
 hd:HDS
 hp:HPS
 en:ENS
 ft:FTS
 an:ANS
 aw:AWS
 fn:FNS
 dr:DRS
 sw:SWS
structure HST where
 ev:List (List Int)
 cl:List (List Int)
 n0:Int
 n1:Int
 n2:Int
 n3:Int
 n4:Int
 n5:Int
 n6:Int
 n7:Int
structure WKS where
 t:Int
 n:Int
 st:STS
 tk:List (List Int)
 en:Int
 b:Bool
 d:DOS
 tl:List Int
 sl:List Int
structure EGS where
 sh:Int
 th:Int
 nd:Int
 tr:Int
 s:MS
 h:HST
 ws:List WKS
 k:Int
instance:Inhabited PLN:=⟨⟨false,0,false,0,0,0,0,false,0⟩⟩
instance:Inhabited HST:=⟨⟨[],[],0,0,0,0,0,0,0,0⟩⟩
abbrev fP:DRS:=⟨0,0⟩
abbrev eN:HDS:=⟨0,0,0,false⟩
abbrev eM:AWS:=⟨0,false,0,0⟩
abbrev bY:CLS:=⟨0,0,0,0⟩
abbrev dH:PRS:=⟨0,0,0,false⟩
abbrev dB:SWS:=⟨0,[],[],0,[],[],[],0,0⟩
abbrev aHs:PLN:=⟨false,0,false,0,0,0,0,false,0⟩
abbrev eL:ANS:=⟨0,0,0,0,false,0⟩
abbrev bV:ENS:=⟨0,false,false,⟨0,0,0,0,false⟩,⟨0,[],[],0,[],[],[],0,0⟩⟩
abbrev fB:EXS:=⟨0,0,0,0,0,0,false,0,0,0,0⟩
abbrev bR:FNS:=⟨0,0,0,0,0,[],false,0,0,0,0,0,0,⟨0,0,0,0⟩⟩
abbrev dF:FTS:=⟨0,false,0,false,0,0,0,0,0,0,⟨false,0,false,0,0,0,0,false,0⟩,⟨0,0,0,0,0,[],false,0,0,0,0,0,0,⟨0,0,0,0⟩⟩,⟨0,0,0,0⟩,⟨0,0,0,false⟩⟩
abbrev dC:HPS:=⟨0,0,0,0,0,0,0,0,0,⟨false,0,false,0,0,0,0,false,0⟩,⟨0,0,0,0,0,0,false,0,0,0,0⟩,⟨0,false,false,⟨0,0,0,0,false⟩,⟨0,[],[],0,[],[],[],0,0⟩⟩,⟨0,0,0,0,0,[],false,0,0,0,0,0,0,⟨0,0,0,0⟩⟩,⟨0,0,0,0⟩,⟨0,0,0,false⟩⟩
abbrev fF:DOS:=⟨0,false,0,false,0,0,0,0,0,⟨0,0,0,false⟩,⟨0,0,0,0,0,0,0,0,0,⟨false,0,false,0,0,0,0,false,0⟩,⟨0,0,0,0,0,0,false,0,0,0,0⟩,⟨0,false,false,⟨0,0,0,0,false⟩,⟨0,[],[],0,[],[],[],0,0⟩⟩,⟨0,0,0,0,0,[],false,0,0,0,0,0,0,⟨0,0,0,0⟩⟩,⟨0,0,0,0⟩,⟨0,0,0,false⟩⟩,⟨0,false,false,⟨0,0,0,0,false⟩,⟨0,[],[],0,[],[],[],0,0⟩⟩,⟨0,false,0,false,0,0,0,0,0,0,⟨false,0,false,0,0,0,0,false,0⟩,⟨0,0,0,0,0,[],false,0,0,0,0,0,0,⟨0,0,0,0⟩⟩,⟨0,0,0,0⟩,⟨0,0,0,false⟩⟩,⟨0,0,0,0,false,0⟩,⟨0,false,0,0⟩,⟨0,0,0,0,0,[],false,0,0,0,0,0,0,⟨0,0,0,0⟩⟩,⟨0,0⟩,⟨0,[],[],0,[],[],[],0,0⟩⟩
inductive Mc where
 | sweep (t n:Int) (y:SWS)
 | ensure (t n:Int) (e:ENS)
 | store (t n:Int) (s:STS)
 | clear (t n:Int) (x:CLS)
 | prepare (t n:Int) (x:PRS)
 | head (t n:Int) (x:HDS)
 | drop (t n:Int) (x:DRS)
 | announce (t n:Int) (x:ANS)
 | answer (t n:Int) (x:AWS)
 | exec (t n:Int) (x:EXS)
 | find (t n:Int) (x:FNS)
 | fast (t n:Int) (x:FTS)
 | help (t n:Int) (x:HPS)
 | doer (t n:Int) (x:DOS)
 | hist (x:HST)
 | worker (x:WKS)
 | wrow (ws:List WKS)
 | whole (ws:List WKS) (i:Nat)
 | srow (ws:List (List Int))
 | shole (ws:List (List Int)) (i:Nat)
 | engine (x:EGS)
abbrev Ob:=Mc
def alE(t n:Int)(x:AL):Option (aG Mc):=some (.cells [.int .i64 t,.int .i64 n,.int .i64 x.got,.int .i64 x.at',.int .i64 x.left,.int .u64 x.found,.bool x.free])
def O7(t n:Int)(y:SWS):aC Mc:=match y.ph with
 | 0=>[some (.cells [.ptr 1 0,.raw (.pointer none)]),none]
 | 1=>[some (.cells [.ptr 1 0,.ptr 2 0]),none,some (.cells [.int .i64 t,.int .i64 n,.raw (.slice none 0 0),.raw (.slice none 0 0),.slice 3 0 y.N.length 1,.map 4,.int .i64 y.i,.raw (.pointer none)]),some (.ints (some .i64) y.N),some (.imap .i64 none y.m)]
 | 2=>[some (.cells [.ptr 1 0,.ptr 2 0]),none,some (.cells [.int .i64 t,.int .i64 n,.slice 3 0 y.ks.length 1,.slice 4 0 y.fs.length 1,.slice 5 0 y.N.length 1,.map 6,.int .i64 y.i,.ptr 7 0]),some (.ints (some .i64) y.ks),some (.ints (some .i64) y.fs),some (.ints (some .i64) y.N),some (.imap .i64 none y.m),some (.cells [.int .i64 t,.int .i64 n,.slice 8 y.j y.l 1]),some (.ints (some .i64) y.gs)]
 | _=>[some (.cells [.ptr 1 0,.O]),none]
def FQ(t n:Int)(e:ENS):aC Mc:=match e.ph with
 | 0=>[some (.cells [.ptr 1 0,.bool e.sh,.raw (.pointer none),.raw (.pointer none),.bool e.dn]),none]
 | 1=>[some (.cells [.ptr 1 0,.bool e.sh,.ptr 2 0,.raw (.pointer none),.bool e.dn]),none,alE t n e.x]
 | 2=>[some (.cells [.ptr 1 0,.bool e.sh,.ptr 2 0,.ptr 3 0,.bool e.dn]),none,alE t n e.x,some (.cells [.ptr 1 0,.raw (.pointer none)])]
 | 3=>[some (.cells [.ptr 1 0,.bool e.sh,.ptr 2 0,.ptr 3 0,.bool e.dn]),none,alE t n e.x,some (.cells [.ptr 1 0,.ptr 4 0]),some (.cells [.int .i64 t,.int .i64 n,.raw (.slice none 0 0),.raw (.slice none 0 0),.slice 5 0 e.y.N.length 1,.map 6,.int .i64 e.y.i,.raw (.pointer none)]),some (.ints (some .i64) e.y.N),some (.imap .i64 none e.y.m)]
 | _=>[some (.cells [.ptr 1 0,.bool e.sh,.ptr 2 0,.ptr 3 0,.bool e.dn]),none,alE t n e.x,some (.cells [.ptr 1 0,.ptr 4 0]),some (.cells [.int .i64 t,.int .i64 n,.slice 5 0 e.y.ks.length 1,.slice 6 0 e.y.fs.length 1,.slice 7 0 e.y.N.length 1,.map 8,.int .i64 e.y.i,.ptr 9 0]),some (.ints (some .i64) e.y.ks),some (.ints (some .i64) e.y.fs),some (.ints (some .i64) e.y.N),some (.imap .i64 none e.y.m),some (.cells [.int .i64 t,.int .i64 n,.slice 10 e.y.j e.y.l 1]),some (.ints (some .i64) e.y.gs)]
def dP(t n:Int)(s:STS):aC Mc:=[some (.cells [.int .i64 t,.int .i64 n,.int .i64 s.me,.int .i64 s.sp,.slice 1 0 s.R.length 1]),some (.ints (some .i64) s.R)]
theorem bK{a b:Int}(h:a≠b):ieq a b=false:=by
 rw [cI];simpa using h
abbrev mW(t n:Int)(x:CLS):aC Mc:=[some (.cells [.int .i64 t,.int .i64 n,.int .i64 x.addr,.int .i64 x.at',.int .u64 x.word,.int .u64 x.found])]
def aDN(t n:Int)(x:CLS):aC Mc:=mW t n x
abbrev tH(t n:Int)(x:PRS):aC Mc:=[some (.cells [.ptr 1 0,.int .i64 x.key,.int .i64 x.nxt,.int .u64 x.found,.bool x.loaded]),none]
def UU(t n:Int)(x:PRS):aC Mc:=tH t n x
abbrev AM(t n:Int)(x:HDS):aC Mc:=[some (.cells [.int .i64 t,.int .i64 n,.int .i64 x.u,.int .u64 x.no,.int .i64 x.at',.bool x.tk])]
def aIp(t n:Int)(x:HDS):aC Mc:=AM t n x
abbrev AC(t n:Int)(x:DRS):aC Mc:=[some (.cells [.int .i64 t,.int .i64 n,.int .i64 x.th,.int .i64 x.at'])]
def aHx(t n:Int)(x:DRS):aC Mc:=AC t n x
abbrev fJ(t n:Int)(x:ANS):aC Mc:=[some (.cells [.int .i64 t,.int .i64 n,.int .u64 x.no,.int .i64 x.me,.int .i64 x.at',.int .u64 x.bits,.bool x.wrong,.int .u64 x.found])]
def LC(t n:Int)(x:ANS):aC Mc:=fJ t n x
abbrev rD(t n:Int)(x:AWS):aC Mc:=[some (.cells [.int .i64 t,.int .i64 n,.int .i64 x.code,.bool x.okk,.int .i64 x.val,.int .i64 x.me])]
def XN(t n:Int)(x:AWS):aC Mc:=rD t n x
abbrev iN(t n:Int)(x:EXS):aC Mc:=[some (.cells [.int .i64 t,.int .i64 n,.int .i64 x.popped,.int .i64 x.gave,.int .i64 x.u,.int .i64 x.sh,.int .i64 x.kd,.int .i64 x.ky,.bool x.only,.int .i64 x.att,.int .i64 x.at',.int .u64 x.found,.int .u64 x.word])]
def aH1(t n:Int)(x:EXS):aC Mc:=iN t n x
abbrev l5(t n:Int)(x:FNS):aC Mc:=[some (.cells [.int .i64 t,.int .i64 n,.int .i64 x.pred,.int .u64 x.pw,.int .i64 x.curr,.int .u64 x.cw,.int .i64 x.tries,.slice 1 0 x.ul.length 1,.bool x.ab,.int .i64 x.me,.int .i64 x.frm,.int .i64 x.key,.int .i64 x.limit,.int .i64 x.at',.int .i64 x.moved,.O]),some (.ints (some .i64) x.ul)]
abbrev rR(t n:Int)(x:FNS):aC Mc:=[some (.cells [.int .i64 t,.int .i64 n,.int .i64 x.pred,.int .u64 x.pw,.int .i64 x.curr,.int .u64 x.cw,.int .i64 x.tries,.slice 1 0 x.ul.length 1,.bool x.ab,.int .i64 x.me,.int .i64 x.frm,.int .i64 x.key,.int .i64 x.limit,.int .i64 x.at',.int .i64 x.moved,.ptr 2 0]),some (.ints (some .i64) x.ul),some (.abs (.clear t n x.cl) [])]
def wK(t n:Int)(x:FNS):aC Mc:=bif ieq x.at' 4 then rR t n x else l5 t n x
theorem jH{t n:Int}{x:FNS}(h:x.at'≠4):wK t n x=l5 t n x:=by
 have h4:=h;unfold wK;rw [bK h4];rfl
theorem JO{t n:Int}{x:FNS}(h:x.at'=4):wK t n x=rR t n x:=by
 unfold wK;rw [h];rfl
abbrev HF(t n:Int)(x:FTS):aC Mc:=[some (.cells [.ptr 1 0,.int .i64 x.code,.bool x.okk,.int .i64 x.val,.bool x.failed,.int .i64 x.tries,.int .i64 x.sh,.int .i64 x.kd,.int .i64 x.ky,.int .i64 x.most,.int .i64 x.at',.bool x.p.now,.int .i64 x.p.code,.bool x.p.okk,.int .i64 x.p.val,.int .i64 x.p.addr,.int .u64 x.p.old,.int .i64 x.p.nxt,.bool x.p.mark,.int .i64 x.p.pops,.O,.O,.O]),none]
abbrev rQ(t n:Int)(x:FTS):aC Mc:=[some (.cells [.ptr 1 0,.int .i64 x.code,.bool x.okk,.int .i64 x.val,.bool x.failed,.int .i64 x.tries,.int .i64 x.sh,.int .i64 x.kd,.int .i64 x.ky,.int .i64 x.most,.int .i64 x.at',.bool x.p.now,.int .i64 x.p.code,.bool x.p.okk,.int .i64 x.p.val,.int .i64 x.p.addr,.int .u64 x.p.old,.int .i64 x.p.nxt,.bool x.p.mark,.int .i64 x.p.pops,.ptr 2 0,.O,.O]),none,some (.abs (.find t n x.fn) [])]
abbrev wH(t n:Int)(x:FTS):aC Mc:=[some (.cells [.ptr 1 0,.int .i64 x.code,.bool x.okk,.int .i64 x.val,.bool x.failed,.int .i64 x.tries,.int .i64 x.sh,.int .i64 x.kd,.int .i64 x.ky,.int .i64 x.most,.int .i64 x.at',.bool x.p.now,.int .i64 x.p.code,.bool x.p.okk,.int .i64 x.p.val,.int .i64 x.p.addr,.int .u64 x.p.old,.int .i64 x.p.nxt,.bool x.p.mark,.int .i64 x.p.pops,.O,.ptr 2 0,.O]),none,some (.abs (.clear t n x.cl) [])]
abbrev wI(t n:Int)(x:FTS):aC Mc:=[some (.cells [.ptr 1 0,.int .i64 x.code,.bool x.okk,.int .i64 x.val,.bool x.failed,.int .i64 x.tries,.int .i64 x.sh,.int .i64 x.kd,.int .i64 x.ky,.int .i64 x.most,.int .i64 x.at',.bool x.p.now,.int .i64 x.p.code,.bool x.p.okk,.int .i64 x.p.val,.int .i64 x.p.addr,.int .u64 x.p.old,.int .i64 x.p.nxt,.bool x.p.mark,.int .i64 x.p.pops,.O,.O,.ptr 2 0]),none,some (.abs (.prepare t n x.pr) [1])]
def oC(t n:Int)(x:FTS):aC Mc:=bif ieq x.at' 0 then rQ t n x else bif ieq x.at' 1 then wH t n x else bif ieq x.at' 2 then wI t n x else HF t n x
theorem DB{t n:Int}{x:FTS}(h:x.at'≠0/\x.at'≠1/\x.at'≠2):oC t n x=HF t n x:=by
 have ⟨h0,h1,h2⟩:=h;unfold oC;rw [bK h0,bK h1,bK h2];rfl
theorem AI{t n:Int}{x:FTS}(h:x.at'=0):oC t n x=rQ t n x:=by
 unfold oC;rw [h];rfl
theorem JM{t n:Int}{x:FTS}(h:x.at'=1):oC t n x=wH t n x:=by
 unfold oC;rw [h];rfl
theorem JN{t n:Int}{x:FTS}(h:x.at'=2):oC t n x=wI t n x:=by
 unfold oC;rw [h];rfl
abbrev oF(t n:Int)(x:HPS):aC Mc:=[some (.cells [.ptr 1 0,.int .i64 x.u,.int .u64 x.no,.int .i64 x.rounds,.int .i64 x.limit,.int .i64 x.at',.int .u64 x.found,.int .i64 x.sh,.int .i64 x.kd,.int .i64 x.ky,.bool x.p.now,.int .i64 x.p.code,.bool x.p.okk,.int .i64 x.p.val,.int .i64 x.p.addr,.int .u64 x.p.old,.int .i64 x.p.nxt,.bool x.p.mark,.int .i64 x.p.pops,.O,.O,.O,.O,.O]),none]
abbrev wQ(t n:Int)(x:HPS):aC Mc:=[some (.cells [.ptr 1 0,.int .i64 x.u,.int .u64 x.no,.int .i64 x.rounds,.int .i64 x.limit,.int .i64 x.at',.int .u64 x.found,.int .i64 x.sh,.int .i64 x.kd,.int .i64 x.ky,.bool x.p.now,.int .i64 x.p.code,.bool x.p.okk,.int .i64 x.p.val,.int .i64 x.p.addr,.int .u64 x.p.old,.int .i64 x.p.nxt,.bool x.p.mark,.int .i64 x.p.pops,.ptr 2 0,.O,.O,.O,.O]),none,some (.abs (.exec t n x.ex) [])]
abbrev wP(t n:Int)(x:HPS):aC Mc:=[some (.cells [.ptr 1 0,.int .i64 x.u,.int .u64 x.no,.int .i64 x.rounds,.int .i64 x.limit,.int .i64 x.at',.int .u64 x.found,.int .i64 x.sh,.int .i64 x.kd,.int .i64 x.ky,.bool x.p.now,.int .i64 x.p.code,.bool x.p.okk,.int .i64 x.p.val,.int .i64 x.p.addr,.int .u64 x.p.old,.int .i64 x.p.nxt,.bool x.p.mark,.int .i64 x.p.pops,.O,.ptr 2 0,.O,.O,.O]),none,some (.abs (.ensure t n x.en) [1])]
abbrev wR(t n:Int)(x:HPS):aC Mc:=[some (.cells [.ptr 1 0,.int .i64 x.u,.int .u64 x.no,.int .i64 x.rounds,.int .i64 x.limit,.int .i64 x.at',.int .u64 x.found,.int .i64 x.sh,.int .i64 x.kd,.int .i64 x.ky,.bool x.p.now,.int .i64 x.p.code,.bool x.p.okk,.int .i64 x.p.val,.int .i64 x.p.addr,.int .u64 x.p.old,.int .i64 x.p.nxt,.bool x.p.mark,.int .i64 x.p.pops,.O,.O,.ptr 2 0,.O,.O]),none,some (.abs (.find t n x.fn) [])]
abbrev wO(t n:Int)(x:HPS):aC Mc:=[some (.cells [.ptr 1 0,.int .i64 x.u,.int .u64 x.no,.int .i64 x.rounds,.int .i64 x.limit,.int .i64 x.at',.int .u64 x.found,.int .i64 x.sh,.int .i64 x.kd,.int .i64 x.ky,.bool x.p.now,.int .i64 x.p.code,.bool x.p.okk,.int .i64 x.p.val,.int .i64 x.p.addr,.int .u64 x.p.old,.int .i64 x.p.nxt,.bool x.p.mark,.int .i64 x.p.pops,.O,.O,.O,.ptr 2 0,.O]),none,some (.abs (.clear t n x.cl) [])]
abbrev wS(t n:Int)(x:HPS):aC Mc:=[some (.cells [.ptr 1 0,.int .i64 x.u,.int .u64 x.no,.int .i64 x.rounds,.int .i64 x.limit,.int .i64 x.at',.int .u64 x.found,.int .i64 x.sh,.int .i64 x.kd,.int .i64 x.ky,.bool x.p.now,.int .i64 x.p.code,.bool x.p.okk,.int .i64 x.p.val,.int .i64 x.p.addr,.int .u64 x.p.old,.int .i64 x.p.nxt,.bool x.p.mark,.int .i64 x.p.pops,.O,.O,.O,.O,.ptr 2 0]),none,some (.abs (.prepare t n x.pr) [1])]
def kZ(t n:Int)(x:HPS):aC Mc:=bif ieq x.at' 3 then wQ t n x else bif ieq x.at' 4 then wP t n x else bif ieq x.at' 5 then wR t n x else bif ieq x.at' 7 then wO t n x else bif ieq x.at' 8 then wS t n x else oF t n x
theorem k9{t n:Int}{x:HPS}(h:x.at'≠3/\x.at'≠4/\x.at'≠5/\x.at'≠7/\x.at'≠8):kZ t n x=oF t n x:=by
 have ⟨h3,h4,h5,h7,h8⟩:=h;unfold kZ;rw [bK h3,bK h4,bK h5,bK h7,bK h8];rfl
theorem KB{t n:Int}{x:HPS}(h:x.at'=3):kZ t n x=wQ t n x:=by
 unfold kZ;rw [h];rfl
theorem KC{t n:Int}{x:HPS}(h:x.at'=4):kZ t n x=wP t n x:=by
 unfold kZ;rw [h];rfl
theorem KD{t n:Int}{x:HPS}(h:x.at'=5):kZ t n x=wR t n x:=by
 unfold kZ;rw [h];rfl
theorem KE{t n:Int}{x:HPS}(h:x.at'=7):kZ t n x=wO t n x:=by
 unfold kZ;rw [h];rfl
theorem KF{t n:Int}{x:HPS}(h:x.at'=8):kZ t n x=wS t n x:=by
 unfold kZ;rw [h];rfl
abbrev qH(t n:Int)(x:DOS):aC Mc:=[some (.cells [.ptr 1 0,.int .i64 x.code,.bool x.okk,.int .i64 x.val,.bool x.slow,.int .i64 x.sh,.int .i64 x.kd,.int .i64 x.ky,.int .i64 x.limit,.int .i64 x.at',.O,.O,.O,.O,.O,.O,.O,.O,.O]),none]
abbrev gY(t n:Int)(x:DOS):aC Mc:=[some (.cells [.ptr 1 0,.int .i64 x.code,.bool x.okk,.int .i64 x.val,.bool x.slow,.int .i64 x.sh,.int .i64 x.kd,.int .i64 x.ky,.int .i64 x.limit,.int .i64 x.at',.ptr 2 0,.O,.O,.O,.O,.O,.O,.O,.O]),none,some (.abs (.head t n x.hd) [])]
abbrev eD(t n:Int)(x:DOS):aC Mc:=[some (.cells [.ptr 1 0,.int .i64 x.code,.bool x.okk,.int .i64 x.val,.bool x.slow,.int .i64 x.sh,.int .i64 x.kd,.int .i64 x.ky,.int .i64 x.limit,.int .i64 x.at',.O,.ptr 2 0,.O,.O,.O,.O,.O,.O,.O]),none,some (.abs (.help t n x.hp) [1])]
abbrev jD(t n:Int)(x:DOS):aC Mc:=[some (.cells [.ptr 1 0,.int .i64 x.code,.bool x.okk,.int .i64 x.val,.bool x.slow,.int .i64 x.sh,.int .i64 x.kd,.int .i64 x.ky,.int .i64 x.limit,.int .i64 x.at',.O,.O,.ptr 2 0,.O,.O,.O,.O,.O,.O]),none,some (.abs (.ensure t n x.en) [1])]
abbrev jF(t n:Int)(x:DOS):aC Mc:=[some (.cells [.ptr 1 0,.int .i64 x.code,.bool x.okk,.int .i64 x.val,.bool x.slow,.int .i64 x.sh,.int .i64 x.kd,.int .i64 x.ky,.int .i64 x.limit,.int .i64 x.at',.O,.O,.O,.ptr 2 0,.O,.O,.O,.O,.O]),none,some (.abs (.fast t n x.ft) [1])]
abbrev jA(t n:Int)(x:DOS):aC Mc:=[some (.cells [.ptr 1 0,.int .i64 x.code,.bool x.okk,.int .i64 x.val,.bool x.slow,.int .i64 x.sh,.int .i64 x.kd,.int .i64 x.ky,.int .i64 x.limit,.int .i64 x.at',.O,.O,.O,.O,.ptr 2 0,.O,.O,.O,.O]),none,some (.abs (.announce t n x.an) [])]
abbrev jB(t n:Int)(x:DOS):aC Mc:=[some (.cells [.ptr 1 0,.int .i64 x.code,.bool x.okk,.int .i64 x.val,.bool x.slow,.int .i64 x.sh,.int .i64 x.kd,.int .i64 x.ky,.int .i64 x.limit,.int .i64 x.at',.O,.O,.O,.O,.O,.ptr 2 0,.O,.O,.O]),none,some (.abs (.answer t n x.aw) [])]
abbrev jE(t n:Int)(x:DOS):aC Mc:=[some (.cells [.ptr 1 0,.int .i64 x.code,.bool x.okk,.int .i64 x.val,.bool x.slow,.int .i64 x.sh,.int .i64 x.kd,.int .i64 x.ky,.int .i64 x.limit,.int .i64 x.at',.O,.O,.O,.O,.O,.O,.ptr 2 0,.O,.O]),none,some (.abs (.find t n x.fn) [])]
abbrev jC(t n:Int)(x:DOS):aC Mc:=[some (.cells [.ptr 1 0,.int .i64 x.code,.bool x.okk,.int .i64 x.val,.bool x.slow,.int .i64 x.sh,.int .i64 x.kd,.int .i64 x.ky,.int .i64 x.limit,.int .i64 x.at',.O,.O,.O,.O,.O,.O,.O,.ptr 2 0,.O]),none,some (.abs (.drop t n x.dr) [])]
abbrev jG(t n:Int)(x:DOS):aC Mc:=[some (.cells [.ptr 1 0,.int .i64 x.code,.bool x.okk,.int .i64 x.val,.bool x.slow,.int .i64 x.sh,.int .i64 x.kd,.int .i64 x.ky,.int .i64 x.limit,.int .i64 x.at',.O,.O,.O,.O,.O,.O,.O,.O,.ptr 2 0]),none,some (.abs (.sweep t n x.sw) [1])]
def eS(t n:Int)(x:DOS):aC Mc:=bif ieq x.at' 0 then gY t n x else bif ieq x.at' 1 then eD t n x else bif ieq x.at' 5 then eD t n x else bif ieq x.at' 2 then jD t n x else bif ieq x.at' 3 then jF t n x else bif ieq x.at' 4 then jA t n x else bif ieq x.at' 6 then jB t n x else bif ieq x.at' 7 then jE t n x else bif ieq x.at' 8 then jC t n x else bif ieq x.at' 9 then jG t n x else qH t n x
theorem wE{t n:Int}{x:DOS}(h:x.at'≠0/\x.at'≠1/\x.at'≠5/\x.at'≠2/\x.at'≠3/\x.at'≠4/\x.at'≠6/\x.at'≠7/\x.at'≠8/\x.at'≠9):eS t n x=qH t n x:=by
 have ⟨h0,h1,h5,h2,h3,h4,h6,h7,h8,h9⟩:=h;unfold eS;rw [bK h0,bK h1,bK h5,bK h2,bK h3,bK h4,bK h6,bK h7,bK h8,bK h9];rfl
theorem rN{t n:Int}{x:DOS}(h:x.at'=0):eS t n x=gY t n x:=by
 unfold eS;rw [h];rfl
theorem uS{t n:Int}{x:DOS}(h:x.at'=1):eS t n x=eD t n x:=by
 unfold eS;rw [h];rfl
theorem uW{t n:Int}{x:DOS}(h:x.at'=5):eS t n x=eD t n x:=by
 unfold eS;rw [h];rfl
theorem uT{t n:Int}{x:DOS}(h:x.at'=2):eS t n x=jD t n x:=by
 unfold eS;rw [h];rfl
theorem uU{t n:Int}{x:DOS}(h:x.at'=3):eS t n x=jF t n x:=by
 unfold eS;rw [h];rfl
theorem uV{t n:Int}{x:DOS}(h:x.at'=4):eS t n x=jA t n x:=by
 unfold eS;rw [h];rfl
theorem uX{t n:Int}{x:DOS}(h:x.at'=6):eS t n x=jB t n x:=by
 unfold eS;rw [h];rfl
theorem uY{t n:Int}{x:DOS}(h:x.at'=7):eS t n x=jE t n x:=by
 unfold eS;rw [h];rfl
theorem uZ{t n:Int}{x:DOS}(h:x.at'=8):eS t n x=jC t n x:=by
 unfold eS;rw [h];rfl
theorem u6{t n:Int}{x:DOS}(h:x.at'=9):eS t n x=jG t n x:=by
 unfold eS;rw [h];rfl
abbrev evK:List Code1:=[some .i64,none,some .i64,some .i64,some .i64,none,some .i64]
abbrev clK:List Code1:=[some .i64,some .i64,some .i64,some .i64,some .i64,some .i64,some .i64,none,some .i64]
abbrev tkK:List Code1:=[some .i64,some .i64,some .i64]
def BJ(x:HST):aC Mc:=[some (.cells [.tslice 1 0 x.ev.length 7,.tslice 2 0 x.cl.length 9,.int .i64 x.n0,.int .i64 x.n1,.int .i64 x.n2,.int .i64 x.n3,.int .i64 x.n4,.int .i64 x.n5,.int .i64 x.n6,.int .i64 x.n7]),some (.tab evK x.ev),some (.tab clK x.cl)]
abbrev nK(x:WKS):aC Mc:=[some (.cells [.ptr 1 0,.tslice 2 0 x.tk.length 3,.int .i64 x.en,.raw (.pointer none),.slice 3 0 x.tl.length 1,.slice 4 0 x.sl.length 1]),some (.abs (.store x.t x.n x.st) []),some (.tab tkK x.tk),some (.ints (some .i64) x.tl),some (.ints (some .i64) x.sl)]
abbrev qW(x:WKS):aC Mc:=[some (.cells [.ptr 1 0,.tslice 2 0 x.tk.length 3,.int .i64 x.en,.ptr 3 0,.slice 4 0 x.tl.length 1,.slice 5 0 x.sl.length 1]),some (.abs (.store x.t x.n x.st) []),some (.tab tkK x.tk),some (.abs (.doer x.t x.n x.d) [1]),some (.ints (some .i64) x.tl),some (.ints (some .i64) x.sl)]
def wkG(x:WKS):aC Mc:=bif x.b then qW x else nK x
theorem qB{x:WKS}(h:x.b=false):wkG x=nK x:=by unfold wkG;rw [h];rfl
theorem xS{x:WKS}(h:x.b=true):wkG x=qW x:=by unfold wkG;rw [h];rfl
def egG(x:EGS):aC Mc:=[some (.cells [.int .i64 x.sh,.int .i64 x.th,.int .i64 x.nd,.int .i64 x.tr,.ptr 1 0,.ptr 3 0,.slice 4 0 x.ws.length 1,.int .i64 x.k]),some (.cells [.int .i64 x.s.t,.int .i64 x.s.n,.slice 2 0 x.s.xs.length 1,.int .i64 x.s.c,.int .i64 x.s.k,.int .i64 x.s.a,.int .u64 x.s.o,.int .u64 x.s.w,.bool x.s.ok]),some (.ints (some .u64) x.s.xs),some (.abs (.hist x.h) []),some (.abs (.wrow x.ws) [])]
def wkE:uQ Mc where
 X:=WKS
 hd:=fun k _=>.ptr k 0
 en:=fun w=>.abs (.worker w) []
def HR:uQ Mc where
 X:=List Int
 hd:=fun k xs=>.slice k 0 xs.length 1
 en:=fun xs=>.ints (some .i64) xs
def tbl:Mc->Nat×aC Mc
 | .sweep t n y=>(1,O7 t n y)
 | .ensure t n e=>(1,FQ t n e)
 | .store t n s=>(0,dP t n s)
 | .clear t n x=>(0,aDN t n x)
 | .prepare t n x=>(1,UU t n x)
 | .head t n x=>(0,aIp t n x)
 | .drop t n x=>(0,aHx t n x)
 | .announce t n x=>(0,LC t n x)
 | .answer t n x=>(0,XN t n x)
 | .exec t n x=>(0,aH1 t n x)
 | .find t n x=>(0,wK t n x)
 | .fast t n x=>(1,oC t n x)
 | .help t n x=>(1,kZ t n x)
 | .doer t n x=>(1,eS t n x)
 | .hist x=>(0,BJ x)
 | .worker x=>(0,wkG x)
 | .wrow ws=>(0,eI wkE ws)
 | .whole ws i=>(1,gI wkE ws i)
 | .engine x=>(0,egG x)
 | .srow ws=>(0,eI HR ws)
 | .shole ws i=>(1,gI HR ws i)
def memH(s:MS):aC Ob:=[some (.cells [.int .i64 s.t,.int .i64 s.n,.slice 1 0 s.xs.length 1,.int .i64 s.c,.int .i64 s.k,.int .i64 s.a,.int .u64 s.o,.int .u64 s.w,.bool s.ok]),some (.ints (some .u64) s.xs)]
noncomputable def E0:Env Ob Tryz.prog where
 I:=obI tbl
 cps:=fun _=>none
 det:=fun _=>none
 meth:=H0 Tryz.prog
 cpsOk:=by intro f S h;cases h
 detOk:=by intro f S h;cases h
 methOk:=fun t n f h v w _=>H1 h v w
abbrev q9'(s:MS):Prop:=lE' s.3/\(0:Int)<=s.4/\s.4<=(4611686018427387904:Int)
theorem aK{b:Bool}{X Y:Prop}(h1:b=true->X)(h2:b=false->Y):cond b X Y:=aT h1 h2
def laySizeS:aI Ob:=fun args h=>match args,h with
 | [.agg [.int .i64 t,.int .i64 n]],[]=>some (.pre ((0<=t/\t<=100000)/\(0<=n/\n<=100000)) (.ret (.int .i64 (2*n+5*t+6)) []))
 | _,_=>none
theorem HW:aI.ok E0.I Tryz.prog 100 laySizeS:=by
 intro args h o ho K hK;unfold laySizeS at ho;split at ho
 case h_2=>cases ho
 rename_i t n;cases ho;obtain⟨hp,hK⟩:=hK;have hK:K (.int .i64 (2*n+5*t+6)) []:=hK;refine aLw (aD (E:=E0) Tryz.checked.mixed (L:=fun _ _=>none) (n:=10) (aJ (q:=K (.int .i64 (W (W (W (W (W (W (W (W (W (1+n)+4)+W (n+1)) - 1)+W (2*t))+0)+W (3*t))+0)+1))) []) (by kernel_rfl) ?_))
 simp(disch:=omega) only [W,cG]
 refine cast (congrArg (fun z=>K (AVal.int .i64 z) []) ?_) hK;omega
def layLifeS:aI Ob:=fun args h=>match args,h with
 | [.agg [.int .i64 t,.int .i64 n],.int .i64 a],[]=>some (.pre ((0<=t/\t<=100000)/\(0<=n/\n<=100000)/\(-1099511627776<=a/\a<=1099511627776)) (.ret (.int .i64 (n+4+a)) []))
 | _,_=>none
theorem HU:aI.ok E0.I Tryz.prog 56 layLifeS:=by
 intro args h o ho K hK;unfold layLifeS at ho;split at ho
 case h_2=>cases ho
 rename_i t n a;cases ho;obtain⟨hp,hK⟩:=hK;have hK:K (.int .i64 (n+4+a)) []:=hK;refine aLw (aD (E:=E0) Tryz.checked.mixed (L:=fun _ _=>none) (n:=10) (aJ (q:=K (.int .i64 (W (W (W (W (1+n)+4)+a) - 1))) []) (by kernel_rfl) ?_))
 simp(disch:=omega) only [W,cG]
 refine cast (congrArg (fun z=>K (AVal.int .i64 z) []) ?_) hK;omega
def laySlotS:aI Ob:=fun args h=>match args,h with
 | [.agg [.int .i64 t,.int .i64 n],.int .i64 a,.int .i64 b],[]=>some (.pre ((0<=t/\t<=100000)/\(0<=n/\n<=100000)/\(-1099511627776<=a/\a<=1099511627776)/\(-1099511627776<=b/\b<=1099511627776)) (.ret (.int .i64 (2*n+5+2*a+b)) []))
 | _,_=>none
theorem HX:aI.ok E0.I Tryz.prog 127 laySlotS:=by
 intro args h o ho K hK;unfold laySlotS at ho;split at ho
 case h_2=>cases ho
 rename_i t n a b;cases ho;obtain⟨hp,hK⟩:=hK;have hK:K (.int .i64 (2*n+5+2*a+b)) []:=hK;refine aLw (aD (E:=E0) Tryz.checked.mixed (L:=fun _ _=>none) (n:=10) (aJ (q:=K (.int .i64 (W (W (W (W (W (W (1+n)+4)+W (n+1)) - 1)+W (2*a))+b))) []) (by kernel_rfl) ?_))
 simp(disch:=omega) only [W,cG]
 refine cast (congrArg (fun z=>K (AVal.int .i64 z) []) ?_) hK;omega
def layDescS:aI Ob:=fun args h=>match args,h with
 | [.agg [.int .i64 t,.int .i64 n],.int .i64 a],[]=>some (.pre ((0<=t/\t<=100000)/\(0<=n/\n<=100000)/\(-1099511627776<=a/\a<=1099511627776)) (.ret (.int .i64 (2*n+5+2*t+3*a+2)) []))
 | _,_=>none
theorem HT:aI.ok E0.I Tryz.prog 191 layDescS:=by
 intro args h o ho K hK;unfold layDescS at ho;split at ho
 case h_2=>cases ho
 rename_i t n a;cases ho;obtain⟨hp,hK⟩:=hK;have hK:K (.int .i64 (2*n+5+2*t+3*a+2)) []:=hK;refine aLw (aD (E:=E0) Tryz.checked.mixed (L:=fun _ _=>none) (n:=10) (aJ (q:=K (.int .i64 (W (W (W (W (W (W (W (W (1+n)+4)+W (n+1)) - 1)+W (2*t))+0)+W (3*a))+2))) []) (by kernel_rfl) ?_))
 simp(disch:=omega) only [W,cG]
 refine cast (congrArg (fun z=>K (AVal.int .i64 z) []) ?_) hK;omega
def layTaskS:aI Ob:=fun args h=>match args,h with
 | [.agg [.int .i64 t,.int .i64 n],.int .i64 a],[]=>some (.pre ((0<=t/\t<=100000)/\(0<=n/\n<=100000)/\(-1099511627776<=a/\a<=1099511627776)) (.ret (.int .i64 (2*n+5+2*t+3*a+1)) []))
 | _,_=>none
theorem HY:aI.ok E0.I Tryz.prog 198 layTaskS:=by
 intro args h o ho K hK;unfold layTaskS at ho;split at ho
 case h_2=>cases ho
 rename_i t n a;cases ho;obtain⟨hp,hK⟩:=hK;have hK:K (.int .i64 (2*n+5+2*t+3*a+1)) []:=hK;refine aLw (aD (E:=E0) Tryz.checked.mixed (L:=fun _ _=>none) (n:=10) (aJ (q:=K (.int .i64 (W (W (W (W (W (W (W (W (1+n)+4)+W (n+1)) - 1)+W (2*t))+0)+W (3*a))+1))) []) (by kernel_rfl) ?_))
 simp(disch:=omega) only [W,cG]
 refine cast (congrArg (fun z=>K (AVal.int .i64 z) []) ?_) hK;omega
def layTicketS:aI Ob:=fun args h=>match args,h with
 | [.agg [.int .i64 t,.int .i64 n],.int .i64 a],[]=>some (.pre ((0<=t/\t<=100000)/\(0<=n/\n<=100000)/\(-1099511627776<=a/\a<=1099511627776)) (.ret (.int .i64 (2*n+5+2*t+3*a)) []))
 | _,_=>none
theorem AO:aI.ok E0.I Tryz.prog 194 layTicketS:=by
 intro args h o ho K hK;unfold layTicketS at ho;split at ho
 case h_2=>cases ho
 rename_i t n a;cases ho;obtain⟨hp,hK⟩:=hK;have hK:K (.int .i64 (2*n+5+2*t+3*a)) []:=hK;refine aLw (aD (E:=E0) Tryz.checked.mixed (L:=fun _ _=>none) (n:=10) (aJ (q:=K (.int .i64 (W (W (W (W (W (W (W (W (1+n)+4)+W (n+1)) - 1)+W (2*t))+0)+W (3*a))+0))) []) (by kernel_rfl) ?_))
 simp(disch:=omega) only [W,cG]
 refine cast (congrArg (fun z=>K (AVal.int .i64 z) []) ?_) hK;omega
def layCounterS:aI Ob:=fun args h=>match args,h with
 | [.agg [.int .i64 t,.int .i64 n]],[]=>some (.pre ((0<=t/\t<=100000)/\(0<=n/\n<=100000)) (.ret (.int .i64 (2*n+5+2*t+3*t)) []))
 | _,_=>none
theorem x8:aI.ok E0.I Tryz.prog 39 layCounterS:=by
 intro args h o ho K hK;unfold layCounterS at ho;split at ho
 case h_2=>cases ho
 rename_i t n;cases ho;obtain⟨hp,hK⟩:=hK;have hK:K (.int .i64 (2*n+5+2*t+3*t)) []:=hK;refine aLw (aD (E:=E0) Tryz.checked.mixed (L:=fun _ _=>none) (n:=10) (aJ (q:=K (.int .i64 (W (W (W (W (W (W (W (W (1+n)+4)+W (n+1)) - 1)+W (2*t))+0)+W (3*t))+0))) []) (by kernel_rfl) ?_))
 simp(disch:=omega) only [W,cG]
 refine cast (congrArg (fun z=>K (AVal.int .i64 z) []) ?_) hK;omega
def slotsS:aI Ob:=fun args h=>match args,h with
 | [.agg [.int .i64 t,.int .i64 n]],[]=>some (.pre ((0<=t/\t<=100000)/\(0<=n/\n<=100000)) (.ret (.int .i64 (2*t)) []))
 | _,_=>none
theorem VB:aI.ok E0.I Tryz.prog 273 slotsS:=by
 intro args h o ho K hK;unfold slotsS at ho;split at ho
 case h_2=>cases ho
 rename_i t n;cases ho;obtain⟨hp,hK⟩:=hK;have hK:K (.int .i64 (2*t)) []:=hK;refine aLw (aD (E:=E0) Tryz.checked.mixed (L:=fun _ _=>none) (n:=10) (aJ (q:=K (.int .i64 (W (2*t))) []) (by kernel_rfl) ?_))
 simp(disch:=omega) only [W,cG]
 refine cast (congrArg (fun z=>K (AVal.int .i64 z) []) ?_) hK;omega
def eQ(t n:Int):Bool:=ile 1 t&&ile t 8&&ile 1 n&&ile n 200
theorem uI{t n:Int} :eQ t n=true↔1<=t/\t<=8/\1<=n/\n<=200:=by
 unfold eQ;simp only [cD,Bool.and_eq_true,dT'];omega
def bG(n a:Int):Bool:=ile 1 a&&ile a n
theorem eO{n a:Int} :bG n a=true↔1<=a/\a<=n:=by
 unfold bG;simp only [cD,Bool.and_eq_true,dT']
def layRightS:aI Ob:=fun args h=>match args,h with
 | [.agg [.int .i64 t,.int .i64 n]],[]=>some (.pre (True) (.ret (.bool (eQ t n)) []))
 | _,_=>none
theorem D7:aI.ok E0.I Tryz.prog 126 layRightS:=by
 intro args h o ho K hK;unfold layRightS at ho;split at ho
 case h_2=>cases ho
 rename_i t n;cases ho;obtain⟨hp,hK⟩:=hK;have hK:K (.bool (eQ t n)) []:=hK;refine aLw (aD (E:=E0) Tryz.checked.mixed (L:=fun _ _=>none) (n:=10) (aJ (q:=bif ile 1 t then bif ile t 8 then bif ile 1 n then K (.bool (ile n 200)) []else K (.bool false) []else K (.bool false) []else K (.bool false) []) (by kernel_rfl) ?_))
 unfold eQ at hK;refine aK (fun e1=>aK (fun e2=>aK (fun e3=>?_) (fun e3=>?_)) (fun e2=>?_)) (fun e1=>?_)
 all_goals (simp only [*,Bool.true_and,Bool.false_and,Bool.and_false]at hK;exact hK)
def layNodeS:aI Ob:=fun args h=>match args,h with
 | [.agg [.int .i64 t,.int .i64 n],.int .i64 a],[]=>some (.pre (True) (.ret (.bool (bG n a)) []))
 | _,_=>none
theorem HV:aI.ok E0.I Tryz.prog 116 layNodeS:=by
 intro args h o ho K hK;unfold layNodeS at ho;split at ho
 case h_2=>cases ho
 rename_i t n a;cases ho;obtain⟨hp,hK⟩:=hK;have hK:K (.bool (bG n a)) []:=hK;refine aLw (aD (E:=E0) Tryz.checked.mixed (L:=fun _ _=>none) (n:=10) (aJ (q:=bif ile 1 a then K (.bool (ile a n)) []else K (.bool false) []) (by kernel_rfl) ?_))
 unfold bG at hK;refine aK (fun e1=>?_) (fun e1=>?_)
 all_goals (simp only [*,Bool.true_and,Bool.false_and,Bool.and_false]at hK;exact hK)
noncomputable def E1:=(((((((((E0.addS 100 laySizeS HW).addS 56 layLifeS HU).addS 127 laySlotS HX).addS 191 layDescS HT).addS 198 layTaskS HY).addS 194 layTicketS AO).addS 39 layCounterS x8).addS 273 slotsS VB).addS 126 layRightS D7).addS 116 layNodeS HV
def aE(xs:List Int)(a:Int):Int:=if 0<=a/\a<xs.length then xs.getD a.toNat 0 else 0
theorem pF{xs:List Int}{a:Int}(h:0<=a/\a<xs.length):aE xs a=xs.getD a.toNat 0:=if_pos h
theorem gB{xs:List Int}{a:Int}(h: ¬(0<=a/\a<xs.length)):aE xs a=0:=if_neg h
def dU(xs:List Int)(a:Int):Bool:=ile 0 a&&ilt a (xs.length:Int)
theorem oG{xs:List Int}{a:Int} :dU xs a=true↔0<=a/\a<xs.length:=by
 unfold dU;simp only [cD,bC,Bool.and_eq_true,dT']
def aKe(xs:List Int)(a x:Int):List Int:=xs.set a.toNat x
def MS.did(s:MS)(k a w:Int)(ok:Bool)(xs:List Int):MS:= {s with xs:=xs,c:=s.c+1,k:=k,a:=a,o:=aE s.xs a,w:=w,ok:=ok}
def MS.store(s:MS)(a x:Int):MS:=bif dU s.xs a then s.did 2 a x true (aKe s.xs a x)else s.did 2 a 0 false s.xs
def oI(h:aC Ob):Option (Nat×MS):=match h with
 | [some (.cells [.int .i64 t,.int .i64 n,.slice 1 0 len 1,.int .i64 c,.int .i64 k,.int .i64 a,.int .u64 o,.int .u64 w,.bool ok]),some (.ints (some .u64) xs)]=>some (len,⟨t,n,xs,c,k,a,o,w,ok⟩)
 | _=>none
theorem kN{h:aC Ob}{l:Nat}{s:MS}(e:oI h=some (l,s))(hl:l=s.xs.length):h=memH s:=by
 unfold oI at e;split at e
 ·cases e;simp only at hl;subst hl;rfl
 ·cases e
theorem wX(x:Nat):0+x*1=x:=by omega
def peekS:aI Ob:=fun args h=>match args,oI h with
 | [.ptr 0 0,.int .i64 a],some (l,s)=>some (.pre (l=s.xs.length/\True) (.ret (.int .u64 (aE s.xs a)) (memH (s))))
 | _,_=>none
theorem aBd:aI.ok E1.I Tryz.prog 93 peekS:=by
 intro args h o ho K hK;unfold peekS at ho;split at ho
 case h_2=>cases ho
 rename_i a l s hm;cases ho;obtain⟨⟨hl,hp⟩,hK⟩:=hK;have hh:=kN hm hl;subst hh;have hK:K (.int .u64 (aE s.xs a)) (memH (s)):=hK;refine aLw (aD (E:=E1) Tryz.checked.mixed (L:=fun _ _=>none) (n:=10) (aJ (q:=bif ilt a 0 then K (.int .u64 0) [some (.cells [.int .i64 s.1,.int .i64 s.2,.slice 1 0 s.3.length 1,.int .i64 s.4,.int .i64 s.5,.int .i64 s.6,.int .u64 s.7,.int .u64 s.8,.bool s.9]),some (.ints (some .u64) s.3)]else bif ile (↑s.3.length:Int) a then K (.int .u64 0) [some (.cells [.int .i64 s.1,.int .i64 s.2,.slice 1 0 s.3.length 1,.int .i64 s.4,.int .i64 s.5,.int .i64 s.6,.int .u64 s.7,.int .u64 s.8,.bool s.9]),some (.ints (some .u64) s.3)]else((0:Int)<=a/\a<(↑s.3.length:Int))/\0+Int.toNat a*(1:Nat)<s.3.length/\K (.int .u64 (List.getD s.3 (0+Int.toNat a*1) 0)) [some (.cells [.int .i64 s.1,.int .i64 s.2,.slice 1 0 s.3.length 1,.int .i64 s.4,.int .i64 s.5,.int .i64 s.6,.int .u64 s.7,.int .u64 s.8,.bool s.9]),some (.ints (some .u64) s.3)]) (by kernel_rfl) ?_))
 refine aK (fun e1=>?_) (fun e1=>aK (fun e2=>?_) (fun e2=>?_))
 ·rw [bC,dT']at e1;rw [gB omz]at hK;exact hK
 ·rw [cD,dT']at e2;rw [gB omz]at hK;exact hK
 ·rw [bC,dF']at e1;rw [cD,dF']at e2;refine⟨by omega,by omega,?_⟩
  rw [pF omz]at hK;rw [wX];exact hK
def lastS:aI Ob:=fun args h=>match args,oI h with
 | [.ptr 0 0],some (l,s)=>some (.pre (l=s.xs.length/\True) (.ret (.agg [.int .i64 s.k,.int .i64 s.a,.int .u64 s.o,.int .u64 s.w,.bool s.ok]) (memH (s))))
 | _,_=>none
theorem aAW:aI.ok E1.I Tryz.prog 46 lastS:=by
 intro args h o ho K hK;unfold lastS at ho;split at ho
 case h_2=>cases ho
 rename_i l s hm;cases ho;obtain⟨⟨hl,hp⟩,hK⟩:=hK;have hh:=kN hm hl;subst hh;have hK:K (.agg [.int .i64 s.k,.int .i64 s.a,.int .u64 s.o,.int .u64 s.w,.bool s.ok]) (memH (s)):=hK;refine aLw (aD (E:=E1) Tryz.checked.mixed (L:=fun _ _=>none) (n:=10) (aJ (q:=K (.agg [.int .i64 s.5,.int .i64 s.6,.int .u64 s.7,.int .u64 s.8,.bool s.9]) [some (.cells [.int .i64 s.1,.int .i64 s.2,.slice 1 0 s.3.length 1,.int .i64 s.4,.int .i64 s.5,.int .i64 s.6,.int .u64 s.7,.int .u64 s.8,.bool s.9]),some (.ints (some .u64) s.3)]) (by kernel_rfl) ?_))
 exact hK
noncomputable def E2:=(((E1.addS 93 peekS aBd)).addS 46 lastS aAW)
def aX(xs:List Int)(a x:Int):List Int:=if 0<=a/\a<xs.length then xs.set a.toNat x else xs
theorem jM(xs:List Int)(a x:Int):(aX xs a x).length =xs.length:=by unfold aX;split<;>simp
theorem pH{xs:List Int}{a x:Int}(h:0<=a/\a<xs.length):aX xs a x=xs.set a.toNat x:=if_pos h
theorem oO{xs:List Int}{a x:Int}(h: ¬(0<=a/\a<xs.length)):aX xs a x=xs:=if_neg h
theorem gP{xs:List Int}{a:Int}(h: ¬(0<=a/\a<xs.length)):dU xs a=false:=by
 cases e:dU xs a with
 | false=>rfl
 | true=>exact(h (oG.1 e)).elim
theorem U7{xs:List Int}{a:Int}(h:0<=a/\a<xs.length):xs.set a.toNat (aE xs a)=xs:=by
 rw [pF h];apply List.ext_getElem?;intro i;rw [List.getElem?_set]
 by_cases hi:a.toNat=i
 ·subst hi;have:a.toNat<xs.length:=by omega
  simp [this]
 ·simp [hi]
def MS.loadd(s:MS)(a:Int):MS:=s.did 1 a (aE s.xs a) (dU s.xs a) s.xs
def MS.stored(s:MS)(a x:Int):MS:=s.did 2 a (bif dU s.xs a then x else 0) (dU s.xs a) (aX s.xs a x)
def bH(xs:List Int)(a x:Int):Bool:=dU xs a&&ieq (aE xs a) x
def MS.cased(s:MS)(a x y:Int):MS:=s.did 3 a (bif dU s.xs a then y else 0) (bH s.xs a x) (bif bH s.xs a x then aX s.xs a y else s.xs)
def MS.added(s:MS)(a x:Int):MS:=s.did 4 a (bif dU s.xs a then IntKind.wrap .u64 (aE s.xs a+x)else 0) (dU s.xs a) (aX s.xs a (IntKind.wrap .u64 (aE s.xs a+x)))
theorem sC(s:MS)(k a w:Int)(ok:Bool)(xs:List Int)(h:xs.length=s.xs.length):memH (s.did k a w ok xs)=[some (.cells [.int .i64 s.t,.int .i64 s.n,.slice 1 0 s.xs.length 1,.int .i64 (s.c+1),.int .i64 k,.int .i64 a,.int .u64 (aE s.xs a),.int .u64 w,.bool ok]),some (.ints (some .u64) xs)]:=by
 unfold memH MS.did;simp only [h]
def loadS:aI Ob:=fun args h=>match args,oI h with
 | [.ptr 0 0,.int .i64 a],some (l,s)=>some (.pre (l=s.xs.length/\(0<=s.c/\s.c<=4611686018427387904)) (.ret (.int .u64 (aE s.xs a)) (memH (s.loadd a))))
 | _,_=>none
theorem load_ok:aI.ok E2.I Tryz.prog 129 loadS:=by
 intro args h o ho K hK;unfold loadS at ho;split at ho
 case h_2=>cases ho
 rename_i a l s hm;cases ho;obtain⟨⟨hl,hp⟩,hK⟩:=hK;have hh:=kN hm hl;subst hh;have hK:K (.int .u64 (aE s.xs a)) (memH (s.loadd a)):=hK;refine aLw (aD (E:=E2) Tryz.checked.mixed (L:=fun _ _=>none) (n:=10) (aJ (q:=(lE' s.3/\True)/\bif ilt a 0 then K (.int .u64 (aE s.3 a)) [some (.cells [.int .i64 s.1,.int .i64 s.2,.slice 1 0 s.3.length 1,.int .i64 (W (s.4+1)),.int .i64 1,.int .i64 a,.int .u64 (aE s.3 a),.int .u64 (aE s.3 a),.bool false]),some (.ints (some .u64) s.3)]else bif ile (↑s.3.length:Int) a then K (.int .u64 (aE s.3 a)) [some (.cells [.int .i64 s.1,.int .i64 s.2,.slice 1 0 s.3.length 1,.int .i64 (W (s.4+1)),.int .i64 1,.int .i64 a,.int .u64 (aE s.3 a),.int .u64 (aE s.3 a),.bool false]),some (.ints (some .u64) s.3)]else((0:Int)<=a/\a<(↑s.3.length:Int))/\0+Int.toNat a*(1:Nat)<s.3.length/\K (.int .u64 (aE s.3 a)) [some (.cells [.int .i64 s.1,.int .i64 s.2,.slice 1 0 s.3.length 1,.int .i64 (W (s.4+1)),.int .i64 1,.int .i64 a,.int .u64 (aE s.3 a),.int .u64 (aE s.3 a),.bool true]),some (.ints (some .u64) (List.set s.3 (0+Int.toNat a*1) (aE s.3 a)))]) (by kernel_rfl) ?_))
 refine⟨⟨rfl,trivial⟩,?_⟩;have hc:IntKind.wrap .i64 (s.c+1)=s.c+1:=cG omz;simp only [W,WU,hc,wX];unfold MS.loadd at hK;rw [sC _ _ _ _ _ _ rfl]at hK;refine aK (fun e1=>?_) (fun e1=>aK (fun e2=>?_) (fun e2=>?_))
 ·rw [bC,dT']at e1;rw [gP omz]at hK;exact hK
 ·rw [cD,dT']at e2;rw [gP omz]at hK;exact hK
 ·rw [bC,dF']at e1;rw [cD,dF']at e2;refine⟨by omega,by omega,?_⟩
  rw [oG.2 omz]at hK;rw [U7 omz];exact hK
def storeS:aI Ob:=fun args h=>match args,oI h with
 | [.ptr 0 0,.int .i64 a,.int .u64 x],some (l,s)=>some (.pre (l=s.xs.length/\(0<=s.c/\s.c<=4611686018427387904)) (.ret (.tup []) (memH (s.stored a x))))
 | _,_=>none
theorem VF:aI.ok E2.I Tryz.prog 221 storeS:=by
 intro args h o ho K hK;unfold storeS at ho;split at ho
 case h_2=>cases ho
 rename_i a x l s hm;cases ho;obtain⟨⟨hl,hp⟩,hK⟩:=hK;have hh:=kN hm hl;subst hh;have hK:K (.tup []) (memH (s.stored a x)):=hK;refine aLw (aD (E:=E2) Tryz.checked.mixed (L:=fun _ _=>none) (n:=10) (aJ (q:=(lE' s.3/\True)/\bif ilt a 0 then K (.tup []) [some (.cells [.int .i64 s.1,.int .i64 s.2,.slice 1 0 s.3.length 1,.int .i64 (W (s.4+1)),.int .i64 2,.int .i64 a,.int .u64 (aE s.3 a),.int .u64 (aE s.3 a),.bool false]),some (.ints (some .u64) s.3)]else bif ile (↑s.3.length:Int) a then K (.tup []) [some (.cells [.int .i64 s.1,.int .i64 s.2,.slice 1 0 s.3.length 1,.int .i64 (W (s.4+1)),.int .i64 2,.int .i64 a,.int .u64 (aE s.3 a),.int .u64 (aE s.3 a),.bool false]),some (.ints (some .u64) s.3)]else((0:Int)<=a/\a<(↑s.3.length:Int))/\0+Int.toNat a*(1:Nat)<s.3.length/\K (.tup []) [some (.cells [.int .i64 s.1,.int .i64 s.2,.slice 1 0 s.3.length 1,.int .i64 (W (s.4+1)),.int .i64 2,.int .i64 a,.int .u64 (aE s.3 a),.int .u64 x,.bool true]),some (.ints (some .u64) (List.set s.3 (0+Int.toNat a*1) x))]) (by kernel_rfl) ?_))
 refine⟨⟨rfl,trivial⟩,?_⟩;have hc:IntKind.wrap .i64 (s.c+1)=s.c+1:=cG omz;simp only [W,WU,hc,wX];unfold MS.stored at hK;rw [sC _ _ _ _ _ _ (jM _ _ _)]at hK;refine aK (fun e1=>?_) (fun e1=>aK (fun e2=>?_) (fun e2=>?_))
 ·rw [bC,dT']at e1;rw [gP omz,oO omz]at hK;rw [gB omz]at hK⊢;exact hK
 ·rw [cD,dT']at e2;rw [gP omz,oO omz]at hK;rw [gB omz]at hK⊢;exact hK
 ·rw [bC,dF']at e1;rw [cD,dF']at e2;refine⟨by omega,by omega,?_⟩
  rw [oG.2 omz,pH omz]at hK;exact hK
def casS:aI Ob:=fun args h=>match args,oI h with
 | [.ptr 0 0,.int .i64 a,.int .u64 x,.int .u64 y],some (l,s)=>some (.pre (l=s.xs.length/\(0<=s.c/\s.c<=4611686018427387904)) (.ret (.bool (bH s.xs a x)) (memH (s.cased a x y))))
 | _,_=>none
theorem aDG:aI.ok E2.I Tryz.prog 217 casS:=by
 intro args h o ho K hK;unfold casS at ho;split at ho
 case h_2=>cases ho
 rename_i a x y l s hm;cases ho;obtain⟨⟨hl,hp⟩,hK⟩:=hK;have hh:=kN hm hl;subst hh;have hK:K (.bool (bH s.xs a x)) (memH (s.cased a x y)):=hK;refine aLw (aD (E:=E2) Tryz.checked.mixed (L:=fun _ _=>none) (n:=10) (aJ (q:=(lE' s.3/\True)/\bif ilt a 0 then K (.bool false) [some (.cells [.int .i64 s.1,.int .i64 s.2,.slice 1 0 s.3.length 1,.int .i64 (W (s.4+1)),.int .i64 3,.int .i64 a,.int .u64 (aE s.3 a),.int .u64 (aE s.3 a),.bool false]),some (.ints (some .u64) s.3)]else bif ile (↑s.3.length:Int) a then K (.bool false) [some (.cells [.int .i64 s.1,.int .i64 s.2,.slice 1 0 s.3.length 1,.int .i64 (W (s.4+1)),.int .i64 3,.int .i64 a,.int .u64 (aE s.3 a),.int .u64 (aE s.3 a),.bool false]),some (.ints (some .u64) s.3)]else bif ieq (aE s.3 a) x then((0:Int)<=a/\a<(↑s.3.length:Int))/\0+Int.toNat a*(1:Nat)<s.3.length/\K (.bool (ieq (aE s.3 a) x)) [some (.cells [.int .i64 s.1,.int .i64 s.2,.slice 1 0 s.3.length 1,.int .i64 (W (s.4+1)),.int .i64 3,.int .i64 a,.int .u64 (aE s.3 a),.int .u64 y,.bool (ieq (aE s.3 a) x)]),some (.ints (some .u64) (List.set s.3 (0+Int.toNat a*1) y))]else K (.bool (ieq (aE s.3 a) x)) [some (.cells [.int .i64 s.1,.int .i64 s.2,.slice 1 0 s.3.length 1,.int .i64 (W (s.4+1)),.int .i64 3,.int .i64 a,.int .u64 (aE s.3 a),.int .u64 y,.bool (ieq (aE s.3 a) x)]),some (.ints (some .u64) s.3)]) (by kernel_rfl) ?_))
 refine⟨⟨rfl,trivial⟩,?_⟩;have hc:IntKind.wrap .i64 (s.c+1)=s.c+1:=cG omz;simp only [W,WU,hc,wX];unfold MS.cased at hK;rw [sC _ _ _ _ _ _ (by cases bH s.xs a x<;>first | exact jM _ _ _ | rfl)]at hK
 unfold bH at hK;refine aK (fun e1=>?_) (fun e1=>aK (fun e2=>?_) (fun e2=>?_))
 ·rw [bC,dT']at e1;rw [gP omz]at hK;rw [gB omz]at hK⊢;exact hK
 ·rw [cD,dT']at e2;rw [gP omz]at hK;rw [gB omz]at hK⊢;exact hK
 ·rw [bC,dF']at e1;rw [cD,dF']at e2;rw [oG.2 omz,pH omz]at hK;simp only [Bool.true_and,cond_true]at hK;refine aK (fun e3=>⟨by omega,by omega,?_⟩) (fun e3=>?_)
  ·rw [e3]at hK⊢;exact hK
  ·rw [e3]at hK⊢;exact hK
def addS:aI Ob:=fun args h=>match args,oI h with
 | [.ptr 0 0,.int .i64 a,.int .u64 x],some (l,s)=>some (.pre (l=s.xs.length/\(0<=s.c/\s.c<=4611686018427387904)) (.ret (.int .u64 (aE s.xs a)) (memH (s.added a x))))
 | _,_=>none
theorem aDc:aI.ok E2.I Tryz.prog 222 addS:=by
 intro args h o ho K hK;unfold addS at ho;split at ho
 case h_2=>cases ho
 rename_i a x l s hm;cases ho;obtain⟨⟨hl,hp⟩,hK⟩:=hK;have hh:=kN hm hl;subst hh;have hK:K (.int .u64 (aE s.xs a)) (memH (s.added a x)):=hK;refine aLw (aD (E:=E2) Tryz.checked.mixed (L:=fun _ _=>none) (n:=10) (aJ (q:=(lE' s.3/\True)/\bif ilt a 0 then K (.int .u64 (aE s.3 a)) [some (.cells [.int .i64 s.1,.int .i64 s.2,.slice 1 0 s.3.length 1,.int .i64 (W (s.4+1)),.int .i64 4,.int .i64 a,.int .u64 (aE s.3 a),.int .u64 (aE s.3 a),.bool false]),some (.ints (some .u64) s.3)]else bif ile (↑s.3.length:Int) a then K (.int .u64 (aE s.3 a)) [some (.cells [.int .i64 s.1,.int .i64 s.2,.slice 1 0 s.3.length 1,.int .i64 (W (s.4+1)),.int .i64 4,.int .i64 a,.int .u64 (aE s.3 a),.int .u64 (aE s.3 a),.bool false]),some (.ints (some .u64) s.3)]else((0:Int)<=a/\a<(↑s.3.length:Int))/\0+Int.toNat a*(1:Nat)<s.3.length/\K (.int .u64 (aE s.3 a)) [some (.cells [.int .i64 s.1,.int .i64 s.2,.slice 1 0 s.3.length 1,.int .i64 (W (s.4+1)),.int .i64 4,.int .i64 a,.int .u64 (aE s.3 a),.int .u64 (WU (aE s.3 a+x)),.bool true]),some (.ints (some .u64) (List.set s.3 (0+Int.toNat a*1) (WU (aE s.3 a+x))))]) (by kernel_rfl) ?_))
 refine⟨⟨rfl,trivial⟩,?_⟩;have hc:IntKind.wrap .i64 (s.c+1)=s.c+1:=cG omz;simp only [W,WU,hc,wX];unfold MS.added at hK;rw [sC _ _ _ _ _ _ (jM _ _ _)]at hK;refine aK (fun e1=>?_) (fun e1=>aK (fun e2=>?_) (fun e2=>?_))
 ·rw [bC,dT']at e1;rw [gP omz,oO omz]at hK;rw [gB omz]at hK⊢;exact hK
 ·rw [cD,dT']at e2;rw [gP omz,oO omz]at hK;rw [gB omz]at hK⊢;exact hK
 ·rw [bC,dF']at e1;rw [cD,dF']at e2;refine⟨by omega,by omega,?_⟩
  rw [oG.2 omz,pH omz]at hK;exact hK
noncomputable def E3:=(((E2.addS 129 loadS load_ok).addS 221 storeS VF).addS 217 casS aDG).addS 222 addS aDc
abbrev eC(s:MS)(a:Int):MS:=⟨s.t,s.n,s.xs,s.c+1,1,a,aE s.xs a,aE s.xs a,dU s.xs a⟩
abbrev O6(s:MS)(k a v:Int):MS:=⟨s.t,s.n,aX s.xs a v,s.c+1,k,a,aE s.xs a,bif dU s.xs a then v else 0,dU s.xs a⟩
abbrev qX(s:MS)(a o v:Int):MS:=⟨s.t,s.n,bif bH s.xs a o then aX s.xs a v else s.xs,s.c+1,3,a,aE s.xs a,bif dU s.xs a then v else 0,bH s.xs a o⟩
def aO(t n me:Int):Int:=if t<1 then 1 else 1+Int.tdiv (me*n) t
theorem aBJ{x t:Int}(h:0<=x)(ht:1<=t):0<=Int.tdiv x t/\Int.tdiv x t<=x:=by
 rw [Int.tdiv_eq_ediv_of_nonneg h];exact⟨Int.ediv_nonneg h omz,Int.ediv_le_self t h⟩
def first0S:aI Ob:=fun args h=>match args,h with
 | [.ptr 0 0],some (.cells (.int .i64 t:: .int .i64 n:: .int .i64 me::tl))::rest=>some (.pre ((0<=me/\me<=100000)/\(0<=n/\n<=100000)) (.ret (.int .i64 (aO t n me)) (some (.cells (.int .i64 t:: .int .i64 n:: .int .i64 me::tl))::rest)))
 | _,_=>none
theorem MU:aI.ok E3.I Tryz.prog 210 first0S:=by
 intro args h o ho K hK;unfold first0S at ho;split at ho
 case h_2=>cases ho
 rename_i t n me tl rest;cases ho;obtain⟨hp,hK⟩:=hK;have hK:K (.int .i64 (aO t n me)) (some (.cells (.int .i64 t:: .int .i64 n:: .int .i64 me::tl))::rest):=hK;refine(aD (E:=E3) Tryz.checked.mixed (L:=fun _ _=>none) (n:=10) (aJ (q:=bif ilt t 1 then K (.int .i64 1) (some (.cells (.int .i64 t:: .int .i64 n:: .int .i64 me::tl))::rest)else t≠(0:Int)/\K (.int .i64 (W (1+W (Int.tdiv (W (me*n)) t)))) (some (.cells (.int .i64 t:: .int .i64 n:: .int .i64 me::tl))::rest)) (by kernel_rfl) ?_))
 obtain⟨⟨h1,h2⟩,h3,h4⟩:=hp;have hm:0<=me*n/\me*n<=100000*100000:=⟨Int.mul_nonneg h1 h3,Int.mul_le_mul h2 h4 h3 omz⟩;refine aK (fun e=>?_) (fun e=>?_)
 ·rw [bC,dT']at e;unfold aO at hK;rw [if_pos e]at hK;exact hK
 ·rw [bC,dF']at e;refine⟨by omega,?_⟩
  unfold aO at hK;rw [if_neg e]at hK;have:=aBJ (x:=me*n) (t:=t) hm.1 omz
  simp(disch:=omega) only [W,cG]
  exact hK
def HH:aZ Ob:=fun args h=>match args,h with
 | [.ptr 0 0],some (.cells (.int .i64 t:: .int .i64 n:: .int .i64 me::tl))::rest=>some (((0<=me/\me<=100000)/\(0<=n/\n<=100000)),.int .i64 (aO t n me))
 | _,_=>none
theorem SR:aI.ok E3.I Tryz.prog 210 HH.spec:=by
 intro args h o ho;unfold aZ.spec at ho;split at ho
 case h_2=>cases ho
 rename_i p v hv;unfold HH at hv;split at hv
 case h_2=>cases hv
 cases hv;exact MU _ _ o ho
def lifeNewS:aI Ob:=fun args h=>match args,h with
 | [.agg [.int .i64 t,.int .i64 n],.int .i64 a],[]=>some (.pre (True) (.ret (.ptr 0 0) ([some (.cells [.int .i64 t,.int .i64 n,.int .i64 0,.int .i64 (bif bG n a then a else 1),.int .i64 n,.int .u64 0,.bool false])])))
 | _,_=>none
theorem HZ:aI.ok E3.I Tryz.prog 209 lifeNewS:=by
 intro args h o ho K hK;unfold lifeNewS at ho;split at ho
 case h_2=>cases ho
 rename_i t n a;cases ho;obtain⟨hp,hK⟩:=hK;have hK:K (.ptr 0 0) ([some (.cells [.int .i64 t,.int .i64 n,.int .i64 0,.int .i64 (bif bG n a then a else 1),.int .i64 n,.int .u64 0,.bool false])]):=hK;refine aLw (aD (E:=E3) Tryz.checked.mixed (L:=fun _ _=>none) (n:=10) (aJ (q:=True/\bif !bG n a then K (.ptr 0 0) [some (.cells [.int .i64 t,.int .i64 n,.int .i64 0,.int .i64 1,.int .i64 n,.int .u64 0,.bool false])]else K (.ptr 0 0) [some (.cells [.int .i64 t,.int .i64 n,.int .i64 0,.int .i64 a,.int .i64 n,.int .u64 0,.bool false])]) (by kernel_rfl) ?_))
 refine⟨trivial,aK (fun e=>?_) (fun e=>?_)⟩
 ·have e':bG n a=false:=by simpa using e
  rw [e']at hK;exact hK
 ·have e':bG n a=true:=by simpa using e
  rw [e']at hK;exact hK
noncomputable def E4a:=E3.addS 209 lifeNewS HZ
noncomputable def E4:=E4a.addR 210 HH SR
noncomputable def LL:FuncId->Nat->Option (mS Ob):=fun _ _=>some (.rounds 12)
noncomputable def E5:=E4
abbrev iI'(l:List Int):Option (aG Ob):=some (.ints (some .i64) l)
abbrev cE'(l:List AVal):Option (aG Ob):=some (.cells l)
theorem cM'{E:Env Ob Tryz.prog}{f:FuncId}{args:List AVal}{h:aC Ob}{K:AVal->aC Ob->Prop}{q:Prop}(e:fT E LL 10 f args h K=q)(hq:q):aA E.I Tryz.prog f args h K:=aD (E:=E) Tryz.checked.mixed (L:=LL) (n:=10) (aJ e hq)
abbrev cT':=aA (A:=Ob) (obI tbl) Tryz.prog
abbrev sT':=aI.ok (A:=Ob) (obI tbl) Tryz.prog
def cloneS:aI Ob:=fun args h=>match args,h with
 | [.slice 0 0 n 1],[some (.ints (some .i64) xs)]=>some (.pre (n=xs.length/\n<=4294967296) (.ret (.slice 1 0 xs.length 1) [some (.ints (some .i64) xs),some (.ints (some .i64) xs)]))
 | _,_=>none
theorem RB:aI.ok E5.I Tryz.prog 90 cloneS:=by
 intro args h o ho K hK;unfold cloneS at ho;split at ho
 case h_2=>cases ho
 rename_i n xs;cases ho;obtain⟨⟨rfl,hp⟩,hK⟩:=hK;have hK:K (.slice 1 0 xs.length 1) [some (.ints (some .i64) xs),some (.ints (some .i64) xs)]:=hK;refine aLw (aMk (cs:=[(.slot 0,.ints (some .i64))]) (cM' (E:=E5) (q:= ∀(b:Bool),(b=true->xs.length=0)->bif b then K (.slice 1 0 0 1) [some (.ints (some .i64) xs),some (.ints (some .i64) [])]else(0+xs.length<=xs.length/\xs.length<=(4294967296:Nat))/\K (.slice 1 0 xs.length 1) [some (.ints (some .i64) xs),some (.ints (some .i64) (List.take xs.length (List.drop 0 xs)))]) (by kernel_rfl) ?_))
 intro b hb;refine aK (fun e=>?_) (fun e=>⟨⟨by omega,by omega⟩,?_⟩)
 ·have h0:=List.length_eq_zero_iff.1 (hb e);subst h0;exact hK
 ·simpa using hK
def eE(xs ys:List Int):Bool:=decide (xs=ys)
theorem nG{xs ys:List Int} :eE xs ys=true↔xs=ys:=by unfold eE;exact decide_eq_true_iff
structure okI (xs ys:List Int) (i:Nat):Prop where
 h1:i<=xs.length
 h2:xs.length=ys.length
 h3:xs.take i=ys.take i
def HI(xs ys:List Int):Hint Ob:= {X:=Nat,st:=fun i=>([.slice 0 0 xs.length 1,.slice 1 0 ys.length 1,.O,.O,.O,.int .i64 (i:Int)]++List.replicate 20 .O,[some (.ints (some .i64) xs),some (.ints (some .i64) ys)]),ok:=okI xs ys,mu:=fun i=>xs.length - i,keep:=[0,1,5] }
def intsS0:aI Ob:=fun args h=>match args,h with
 | [.slice 0 0 n 1,.slice 1 0 m 1],[some (.ints (some .i64) xs),some (.ints (some .i64) ys)]=>some (.pre ((n=xs.length/\m=ys.length)/\n<=4294967296) (.ret (.bool (eE xs ys)) [some (.ints (some .i64) xs),some (.ints (some .i64) ys)]))
 | _,_=>none
theorem TG:aI.ok E5.I Tryz.prog 58 intsS0:=by
 intro args h o ho K hK;unfold intsS0 at ho;split at ho
 case h_2=>cases ho
 rename_i n m xs ys;cases ho;obtain⟨⟨⟨rfl,rfl⟩,hp⟩,hK⟩:=hK;have hK:K (.bool (eE xs ys)) [some (.ints (some .i64) xs),some (.ints (some .i64) ys)]:=hK;refine(aD (E:=E5) Tryz.checked.mixed (L:=fun _ _=>some (.states (HI xs ys))) (n:=10) (aJ (q:=bif !ieq (↑xs.length:Int) (↑ys.length:Int)then K (.bool false) [some (.ints (some .i64) xs),some (.ints (some .i64) ys)]else dE (HI xs ys) (Hint.ok (HI xs ys)) (.slice 0 0 xs.length 1::.slice 1 0 ys.length 1::.O::.O::.O::.int .i64 0::(tO' 20 [])) [some (.ints (some .i64) xs),some (.ints (some .i64) ys)]/\ ∀(x:Nat),okI xs ys x->bif ilt (↑x:Int) (↑xs.length:Int)then((0:Int)<=(↑x:Int)/\(↑x:Int)<(↑xs.length:Int))/\0+Int.toNat (↑x:Int)*(1:Nat)<xs.length/\((0:Int)<=(↑x:Int)/\(↑x:Int)<(↑ys.length:Int))/\0+Int.toNat (↑x:Int)*(1:Nat)<ys.length/\bif !ieq (List.getD xs (0+Int.toNat (↑x:Int)*1) 0) (List.getD ys (0+Int.toNat (↑x:Int)*1) 0)then K (.bool false) [some (.ints (some .i64) xs),some (.ints (some .i64) ys)]else dE (HI xs ys) (fun x'=>Hint.ok (HI xs ys) x'/\Hint.mu (HI xs ys) x'<Hint.mu (HI xs ys) x) (.slice 0 0 xs.length 1::.slice 1 0 ys.length 1::.O::.O::.O::.int .i64 (W ((↑x:Int)+1))::(tO' 20 [])) [some (.ints (some .i64) xs),some (.ints (some .i64) ys)]else K (.bool true) [some (.ints (some .i64) xs),some (.ints (some .i64) ys)]) (by kernel_rfl) ?_))
 have hS:eE xs ys=decide (xs=ys):=rfl;refine aK (fun e=>?_) (fun e=>⟨aR (H:=HI xs ys) (0:Nat) rfl ⟨Nat.zero_le _,?_,rfl⟩,?_⟩)
 ·rw [cI]at e;have:xs≠ys:=by rintro rfl;simp at e
  rw [hS,decide_eq_false this]at hK;exact hK
 ·rw [cI]at e;simp at e;omega
 ·rintro i ⟨h1,h2,h3⟩;refine aK (fun e1=>?_) (fun e1=>?_)
  ·rw [bC,dT']at e1;have hi:i<xs.length:=by omega
   have e2:0+(i:Int).toNat *1=i:=by omega
   rw [e2];refine⟨by omega,hi,by omega,by omega,aK (fun e3=>?_) (fun e3=>?_)⟩
   ·rw [cI]at e3;have:xs≠ys:=by rintro rfl;simp at e3
    rw [hS,decide_eq_false this]at hK;exact hK
   ·rw [cI]at e3;have e3:xs.getD i 0=ys.getD i 0:=by simpa using e3
    have e4:IntKind.wrap .i64 ((i:Int)+1)=((i+1:Nat):Int):=by rw [cG omz];rfl
    refine aR (H:=HI xs ys) (i+1:Nat) (by simp only [W,e4]<;>rfl) ⟨⟨hi,h2,?_⟩,by show xs.length - (i+1)<xs.length - i;omega⟩
    have hj:i<ys.length:=by omega
    rw [gD',gE' hi,gD',gE' hj]at e3;rw [List.take_succ_eq_append_getElem hi,List.take_succ_eq_append_getElem hj,h3];have e5:xs[i]=ys[i]:=by simpa using e3
    rw [e5]
  ·rw [bC,dF']at e1
   have:xs=ys:=by
    rw [List.take_of_length_le omz,List.take_of_length_le omz]at h3;exact h3
   rw [hS,decide_eq_true this]at hK;exact hK
def D3:aZ Ob:=fun args h=>match args,h with
 | [.slice 0 0 n 1,.slice 1 0 m 1],[some (.ints (some .i64) xs),some (.ints (some .i64) ys)]=>some ((n=xs.length/\m=ys.length)/\n<=4294967296,.bool (eE xs ys))
 | _,_=>none
theorem AN:aI.ok E5.I Tryz.prog 58 D3.spec:=by
 intro args h o ho;unfold aZ.spec at ho;split at ho
 case h_2=>cases ho
 rename_i p v hv;unfold D3 at hv;split at hv
 case h_2=>cases hv
 cases hv;exact TG _ _ o ho
noncomputable def E6:=(E5.addS 90 cloneS RB).addR 58 D3 AN
def storeNewS:aI Ob:=fun args h=>match args,h with
 | [.agg [.int .i64 t,.int .i64 n],.int .i64 me],[]=>some (.ret (.ptr 0 0) [some (.cells [.int .i64 t,.int .i64 n,.int .i64 me,.int .i64 0,.raw (.slice none 0 0)])])
 | _,_=>none
theorem FH:aI.ok E6.I Tryz.prog 101 storeNewS:=by
 intro args h o ho K hK;unfold storeNewS at ho;split at ho
 case h_2=>cases ho
 rename_i t n me;cases ho;have hK:K (.ptr 0 0) [some (.cells [.int .i64 t,.int .i64 n,.int .i64 me,.int .i64 0,.raw (.slice none 0 0)])]:=hK;exact aLw (cM' (E:=E6) (by kernel_rfl) hK)
def mG(sp:Int)(xs:List Int):List Int:=bif ieq sp 0 then xs else sp::xs
def heldS:aI Ob:=fun args h=>match args,h with
 | [.ptr 0 0],[some (.cells [.int .i64 t,.int .i64 n,.int .i64 me,.int .i64 sp,.slice 1 0 k 1]),some (.ints (some .i64) xs)]=>some (.pre (k=xs.length/\k<=1000000) (.ret (.slice 2 0 (mG sp xs).length 1) [some (.cells [.int .i64 t,.int .i64 n,.int .i64 me,.int .i64 sp,.slice 1 0 k 1]),some (.ints (some .i64) xs),some (.ints (some .i64) (mG sp xs))]))
 | _,_=>none
theorem aAF:aI.ok E6.I Tryz.prog 106 heldS:=by
 intro args h o ho K hK;unfold heldS at ho;split at ho
 case h_2=>cases ho
 rename_i t n me sp k xs;cases ho;obtain⟨⟨rfl,hp⟩,hK⟩:=hK;have hK:K (.slice 2 0 (mG sp xs).length 1) [some (.cells [.int .i64 t,.int .i64 n,.int .i64 me,.int .i64 sp,.slice 1 0 xs.length 1]),some (.ints (some .i64) xs),some (.ints (some .i64) (mG sp xs))]:=hK;refine aLw (aMk (cs:=[(.slot 0,.ints (some .i64))]) (cM' (E:=E6) (q:=bif ieq sp 0 then(lE' xs/\xs.length<=(4294967296:Nat))/\K (.slice 2 0 xs.length 1) [some (.cells [.int .i64 t,.int .i64 n,.int .i64 me,.int .i64 sp,.slice 1 0 xs.length 1]),some (.ints (some .i64) xs),some (.ints (some .i64) xs)]else(0+xs.length<=xs.length/\1+xs.length<=(4294967296:Nat))/\K (.slice 2 0 (1+xs.length) 1) [some (.cells [.int .i64 t,.int .i64 n,.int .i64 me,.int .i64 sp,.slice 1 0 xs.length 1]),some (.ints (some .i64) xs),some (.ints (some .i64) ([sp]++List.take xs.length (List.drop 0 xs)))]) (by kernel_rfl) ?_))
 unfold mG at hK;refine aK (fun e=>⟨⟨rfl,by omega⟩,?_⟩) (fun e=>⟨⟨by omega,by omega⟩,?_⟩)
 ·rw [e]at hK;exact hK
 ·rw [e]at hK;simp only [cond_false]at hK;have e1:1+xs.length=(sp::xs).length :=by simp;omega
  have e2: [sp]++List.take xs.length (List.drop 0 xs)=sp::xs:=by simp
  rw [e1,e2];exact hK
def fullS0:aI Ob:=fun args h=>match args,h with
 | [.ptr 0 0],some (.cells [.int .i64 t,.int .i64 n,.int .i64 me,.int .i64 sp,.slice 1 0 k 1])::rest=>some (.pre (0<=t/\t<=100000) (.ret (.bool (ile (4*t) (k:Int))) (some (.cells [.int .i64 t,.int .i64 n,.int .i64 me,.int .i64 sp,.slice 1 0 k 1])::rest)))
 | _,_=>none
theorem SW:aI.ok E6.I Tryz.prog 168 fullS0:=by
 intro args h o ho K hK;unfold fullS0 at ho;split at ho
 case h_2=>cases ho
 rename_i t n me sp k rest;cases ho;obtain⟨hp,hK⟩:=hK;have hK:K (.bool (ile (4*t) (k:Int))) (some (.cells [.int .i64 t,.int .i64 n,.int .i64 me,.int .i64 sp,.slice 1 0 k 1])::rest):=hK;refine(cM' (E:=E6) (q:=K (.bool (ile (W (4*t)) (↑k:Int))) (some (.cells [.int .i64 t,.int .i64 n,.int .i64 me,.int .i64 sp,.slice 1 0 k 1])::rest)) (by kernel_rfl) ?_)
 simp(disch:=omega) only [W,cG]
 exact hK
def SX:aZ Ob:=fun args h=>match args,h with
 | [.ptr 0 0],some (.cells [.int .i64 t,.int .i64 n,.int .i64 me,.int .i64 sp,.slice 1 0 k 1])::rest=>some (0<=t/\t<=100000,.bool (ile (4*t) (k:Int)))
 | _,_=>none
theorem Z8:aI.ok E6.I Tryz.prog 168 SX.spec:=by
 intro args h o ho;unfold aZ.spec at ho;split at ho
 case h_2=>cases ho
 rename_i p v hv;unfold SX at hv;split at hv
 case h_2=>cases hv
 cases hv;exact SW _ _ o ho
noncomputable def E7:=((E6.addS 101 storeNewS FH).addS 106 heldS aAF).addR 168 SX Z8
def fC(s:Int):List Int:=bif ieq s 1||ieq s 2 then [1,2,3]else bif ieq s 3||ieq s 4 then [4,5]else []
def kindsS:aI Ob:=fun args h=>match args,h with
 | [.int .i64 s],[]=>some (.ret (.slice 0 0 (fC s).length 1) [some (.ints (some .i64) (fC s))])
 | _,_=>none
theorem TJ:aI.ok E7.I Tryz.prog 139 kindsS:=by
 intro args h o ho K hK;unfold kindsS at ho;split at ho
 case h_2=>cases ho
 rename_i s;cases ho;have hK:K (.slice 0 0 (fC s).length 1) [some (.ints (some .i64) (fC s))]:=hK;refine aLw (aMk (cs:=[(.slot 0,.ints (some .i64))]) (cM' (E:=E7) (q:=bif ieq s 1 then K (.slice 0 0 3 1) [some (.ints (some .i64) [1,2,3])]else bif ieq s 2 then K (.slice 0 0 3 1) [some (.ints (some .i64) [1,2,3])]else bif ieq s 3 then K (.slice 0 0 2 1) [some (.ints (some .i64) [4,5])]else bif ieq s 4 then K (.slice 0 0 2 1) [some (.ints (some .i64) [4,5])]else K (.slice 0 0 0 1) [some (.ints (some .i64) [])]) (by kernel_rfl) ?_))
 unfold fC at hK;cases e1:ieq s 1<;>cases e2:ieq s 2<;>cases e3:ieq s 3<;>cases e4:ieq s 4<;>simp only [e1,e2,e3,e4,Bool.or_true,Bool.or_false,Bool.true_or,Bool.false_or,cond_true,cond_false]at hK⊢ <;>exact hK
noncomputable def E8:=E7.addS 139 kindsS TJ
theorem rX(a:Int):ieq a a=true:=by rw [cI];simp
def hasB(xs:List Int)(n:Int):Bool:=decide (n∈xs)
theorem kK{xs:List Int}{n:Int} :hasB xs n=true↔n∈xs:=by unfold hasB;exact decide_eq_true_iff
structure okC (xs:List Int) (n:Int) (i:Nat):Prop where
 h1:i<=xs.length
 h2:n∉xs.take i
def HC(xs:List Int)(n:Int):Hint Ob:= {X:=Nat,st:=fun i=>([.slice 0 0 xs.length 1,.int .i64 n,.O,.O,.O,.O,.O,.int .i64 (xs.length:Int),.int .i64 (i:Int)]++List.replicate 10 .O,[some (.ints (some .i64) xs)]),ok:=okC xs n,mu:=fun i=>xs.length - i,keep:=[0,1,7,8] }
def hasS0:aI Ob:=fun args h=>match args,h with
 | [.slice 0 0 k 1,.int .i64 n],[some (.ints (some .i64) xs)]=>some (.pre (k=xs.length/\k<=4294967296) (.ret (.bool (hasB xs n)) [some (.ints (some .i64) xs)]))
 | _,_=>none
theorem aAa:aI.ok E8.I Tryz.prog 138 hasS0:=by
 intro args h o ho K hK;unfold hasS0 at ho;split at ho
 case h_2=>cases ho
 rename_i k n xs;cases ho;obtain⟨⟨rfl,hp⟩,hK⟩:=hK;have hK:K (.bool (hasB xs n)) [some (.ints (some .i64) xs)]:=hK;refine(aD (E:=E8) Tryz.checked.mixed (L:=fun _ _=>some (.states (HC xs n))) (n:=10) (aJ (q:=dE (HC xs n) (Hint.ok (HC xs n)) [.slice 0 0 xs.length 1,.int .i64 n,.O,.O,.O,.O,.O,.int .i64 (↑xs.length:Int),.int .i64 0,.O,.O,.O,.O,.O,.O,.O,.O,.O,.O] [some (.ints (some .i64) xs)]/\ ∀(x:Nat),okC xs n x->bif ilt (↑x:Int) (↑xs.length:Int)then((0:Int)<=(↑x:Int)/\(↑x:Int)<(↑xs.length:Int))/\0+Int.toNat (↑x:Int)*(1:Nat)<xs.length/\bif ieq n (List.getD xs (0+Int.toNat (↑x:Int)*1) 0)then K (.bool (ile 0 (↑x:Int))) [some (.ints (some .i64) xs)]else dE (HC xs n) (fun x'=>Hint.ok (HC xs n) x'/\Hint.mu (HC xs n) x'<Hint.mu (HC xs n) x) [.slice 0 0 xs.length 1,.int .i64 n,.O,.O,.O,.O,.O,.int .i64 (↑xs.length:Int),.int .i64 (W ((↑x:Int)+1)),.O,.O,.O,.O,.O,.O,.O,.O,.O,.O] [some (.ints (some .i64) xs)]else K (.bool false) [some (.ints (some .i64) xs)]) (by kernel_rfl) ?_))
 have hS:hasB xs n=decide (n∈xs):=rfl;refine⟨aR (H:=HC xs n) (0:Nat) rfl ⟨Nat.zero_le _,by simp⟩,?_⟩
 rintro i ⟨h1,h2⟩;refine aK (fun e1=>?_) (fun e1=>?_)
 ·rw [bC,dT']at e1;have hi:i<xs.length:=by omega
  have e2:0+(i:Int).toNat *1=i:=by omega
  rw [e2];have e4:IntKind.wrap .i64 ((i:Int)+1)=((i+1:Nat):Int):=by rw [cG omz];rfl
  have hg:xs.getD i 0=xs[i]:=by rw [gD',gE' hi];rfl
  refine⟨by omega,hi,aK (fun e3=>?_) (fun e3=>?_)⟩
  ·rw [cI,hg]at e3;have e3:n=xs[i]:=by simpa using e3
   have hm:n∈xs:=by rw [e3];exact List.getElem_mem hi
   have h0:ile 0 (i:Int)=true:=by rw [cD,dT'];omega
   rw [hS,decide_eq_true hm]at hK
   first | (rw [h0];exact hK) | exact hK
  ·rw [cI,hg]at e3;have e3: ¬n=xs[i]:=by simpa using e3
   refine aR (H:=HC xs n) (i+1:Nat) (by simp only [W,e4]<;>rfl) ⟨⟨hi,?_⟩,by show xs.length - (i+1)<xs.length - i;omega⟩
   rw [List.take_succ_eq_append_getElem hi];intro hm;rcases List.mem_append.1 hm with h | h
   ·exact h2 h
   ·exact e3 (by simpa using h)
 ·rw [bC,dF']at e1;rw [List.take_of_length_le omz]at h2;rw [hS,decide_eq_false h2]at hK;exact hK
def aAc:aZ Ob:=fun args h=>match args,h with
 | [.slice 0 0 k 1,.int .i64 n],[some (.ints (some .i64) xs)]=>some (k=xs.length/\k<=4294967296,.bool (hasB xs n))
 | _,_=>none
theorem S2:aI.ok E8.I Tryz.prog 138 aAc.spec:=by
 intro args h o ho;unfold aZ.spec at ho;split at ho
 case h_2=>cases ho
 rename_i p v hv;unfold aAc at hv;split at hv
 case h_2=>cases hv
 cases hv;exact aAa _ _ o ho
noncomputable def E9:=E8.addR 138 aAc S2
theorem HS(s:Int):(fC s).length <=3:=by
 unfold fC;cases (ieq s 1||ieq s 2)<;>cases (ieq s 3||ieq s 4)<;>simp
def bT(s k y:Int):Bool:=hasB (fC s) k&&(ile 0 y&&ile y (bif ieq k 5 then 0 else 999))
def IN:aZ Ob:=fun args h=>match args,h with
 | [.int .i64 s,.agg [.int .i64 k,.int .i64 y]],[]=>some (True,.bool (bT s k y))
 | _,_=>none
theorem U0:aI.ok E9.I Tryz.prog 117 IN.spec:=by
 refine aZ.mk fun args h p v hv _ K hK=>?_;unfold IN at hv;split at hv
 case h_2=>cases hv
 rename_i s k y;cases hv;have hK:K (.bool (bT s k y)) []:=hK;refine aLw (cM' (E:=E9) (q:=bif ieq k 5 then(lE' (fC s)/\List.length (fC s)<=(4294967296:Nat))/\bif hasB (fC s) k then bif ile 0 y then K (.bool (ile y 0)) []else K (.bool false) []else K (.bool false) []else(lE' (fC s)/\List.length (fC s)<=(4294967296:Nat))/\bif hasB (fC s) k then bif ile 0 y then K (.bool (ile y 999)) []else K (.bool false) []else K (.bool false) []) (by kernel_rfl) ?_)
 have hl:=HS s;unfold bT at hK
 refine aK (fun e1=>⟨⟨rfl,by omega⟩,aK (fun e2=>aK (fun e3=>?_) (fun e3=>?_)) (fun e2=>?_)⟩) (fun e1=>⟨⟨rfl,by omega⟩,aK (fun e2=>aK (fun e3=>?_) (fun e3=>?_)) (fun e2=>?_)⟩)<;>
  (simp only [e1,e2,cond_true,cond_false,Bool.true_and,Bool.false_and]at hK<;>first | (simp only [e3,Bool.true_and,Bool.false_and]at hK;exact hK) | exact hK)
noncomputable def E10:=E9.addR 117 IN U0
def aB(x a w:Int):Int:=x / 2^a.toNat%2^w.toNat
def bitI(b:Bool):Int:=bif b then 1 else 0
def aN(n w:Int):Bool:=ile 0 n&&ilt n (2^w.toNat)
theorem toNat_ofInt(n:Nat)(x:Int):((BitVec.ofInt n x).toNat :Int)=x%2^n:=by
 rw [BitVec.toNat_ofInt];have h:(0:Int)<(2^n:Nat):=by exact_mod_cast Nat.two_pow_pos n
 have h2:0<=x%((2^n:Nat):Int):=Int.emod_nonneg _ omz;rw [Int.toNat_of_nonneg h2]
 push_cast
 rfl
theorem kF(w:Nat):(0:Int)<2^w:=by
 have:((2^w:Nat):Int)=2^w:=by push_cast;rfl
 have h:0<2^w:=Nat.two_pow_pos w;omega
theorem VU{w n:Nat}(h:w<=n):(2:Int)^w<=2^n:=by
 have a:((2^w:Nat):Int)=2^w:=by push_cast;rfl
 have b:((2^n:Nat):Int)=2^n:=by push_cast;rfl
 have h:2^w<=2^n:=Nat.pow_le_pow_right omz h;omega
theorem aBQ{w n:Nat}(h:w<=n):(2:Int)^w∣2^n:=by
 have a:((2^w:Nat):Int)=2^w:=by push_cast;rfl
 have b:((2^n:Nat):Int)=2^n:=by push_cast;rfl
 rw [<-a,<-b];exact Int.natCast_dvd_natCast.2 (Nat.pow_dvd_pow 2 h)
theorem kS{n w:Nat}(x:Int)(h:w<n):((BitVec.ofInt n x&&&BitVec.ofInt n (2^w - 1)).toNat :Int)=x%2^w:=by
 have hp:=kF w;have h3:(2:Int)^w<=2^n:=VU omz
 have e1:(BitVec.ofInt n (2^w - 1)).toNat =2^w - 1:=by
  have:((BitVec.ofInt n (2^w - 1)).toNat :Int)=((2^w - 1:Nat):Int):=by
   rw [toNat_ofInt,Int.emod_eq_of_lt omz omz];have a:((2^w:Nat):Int)=2^w:=by push_cast;rfl
   have:1<=2^w:=Nat.one_le_two_pow;omega
  exact_mod_cast this
 rw [BitVec.toNat_and,e1,Nat.and_two_pow_sub_one_eq_mod]
 push_cast
 rw [toNat_ofInt];exact Int.emod_emod_of_dvd _ (aBQ omz)
theorem w8{n a:Nat}{x y:Int}(hx:0<=x/\x<2^a)(hy:0<=y)(h:y*2^a+x<2^n):
 ((BitVec.ofInt n x|||BitVec.ofInt n (y*2^a)).toNat :Int)=x+y*2^a:=by
 have hp:=kF a;have aa:0<=y*2^a:=Int.mul_nonneg hy omz;obtain⟨u,rfl⟩:=Int.eq_ofNat_of_zero_le hx.1;obtain⟨v,rfl⟩:=Int.eq_ofNat_of_zero_le hy
 have e1:(BitVec.ofInt n (u:Int)).toNat =u:=by
  have:((BitVec.ofInt n (u:Int)).toNat :Int)=(u:Int):=by
   rw [toNat_ofInt,Int.emod_eq_of_lt omz omz]
  exact_mod_cast this
 have e2:(BitVec.ofInt n ((v:Int)*2^a)).toNat =v*2^a:=by
  have:((BitVec.ofInt n ((v:Int)*2^a)).toNat :Int)=((v*2^a:Nat):Int):=by
   rw [toNat_ofInt,Int.emod_eq_of_lt omz omz];push_cast;rfl
  exact_mod_cast this
 have hu:u<2^a:=by
  have b:((2^a:Nat):Int)=2^a:=by push_cast;rfl
  omega
 rw [BitVec.toNat_or,e1,e2]
 have:u|||v*2^a=u+v*2^a:=by
  have:=Nat.shiftLeft_add_eq_or_of_lt hu v;rw [Nat.shiftLeft_eq]at this;rw [Nat.or_comm,<-this];omega
 rw [this];push_cast;rfl
theorem nT{x:Int}(h:0<=x/\x<=18446744073709551615):IntKind.wrap IntKind.u64 x=x:=IntWalk.u64_in x h
theorem BF{w n:Nat}(h:w<=n){b:Int}(e:b=2^n):(2:Int)^w<=b:=by rw [e];exact VU h
def aDO:aZ Ob:=fun args h=>match args,h with
 | [.int .u64 x,.int .i64 a,.int .i64 w],[]=>some ((0<=a/\a<=63)/\(0<=w/\w<=62),.int .i64 (aB x a w))
 | _,_=>none
theorem aDP:aI.ok E10.I Tryz.prog 171 aDO.spec:=by
 refine aZ.mk fun args h p v hv hp K hK=>?_;unfold aDO at hv;split at hv
 case h_2=>cases hv
 rename_i x a w;cases hv;obtain⟨ha,hw⟩:=hp;have hK:K (.int .i64 (aB x a w)) []:=hK;refine aLw (aD (E:=E10) Tryz.checked.mixed (L:=fun _ _=>none) (n:=10) (aJ (q:=(0:Int)<=a/\(0:Int)<=w/\K (.int .i64 (W (WU (↑(BitVec.toNat (BitVec.ofInt (IntKind.bits .u64) (Int.fdiv x (2^min (Int.toNat a) (IntKind.bits .u64)))&&&BitVec.ofInt (IntKind.bits .u64) (WU (WU (1*2^min (Int.toNat w) (IntKind.bits .u64)) - 1)))):Int)))) []) (by kernel_rfl) ?_))
 refine⟨by omega,by omega,?_⟩
 refine cast (congrArg (fun z=>K (AVal.int .i64 z) []) ?_) hK;show aB x a w=_;have hb:IntKind.bits .u64 =64:=rfl;rw [hb];have h1:min a.toNat 64=a.toNat:=by omega
 have h2:min w.toNat 64=w.toNat:=by omega
 have h3:(2:Int)^w.toNat<=4611686018427387904:=BF (n:=62) omz dS;have h4:=kF w.toNat;have h5:=kF a.toNat;rw [h1,h2,Int.fdiv_eq_ediv_of_nonneg _ omz];simp only [WU,W,Int.one_mul];rw [nT (x:=2^w.toNat) omz,nT (x:=2^w.toNat - 1) omz,kS _ omz];have h6:=Int.emod_nonneg (x / 2^a.toNat) (b:=2^w.toNat) omz;have h7:=Int.emod_lt_of_pos (x / 2^a.toNat) (b:=2^w.toNat) omz;rw [nT omz,cG omz];rfl
def aDE:aZ Ob:=fun args h=>match args,h with
 | [.bool b],[]=>some (True,.int .i64 (bitI b))
 | _,_=>none
theorem aDF:aI.ok E10.I Tryz.prog 297 aDE.spec:=by
 refine aZ.mk fun args h p v hv _ K hK=>?_;unfold aDE at hv;split at hv
 case h_2=>cases hv
 rename_i b;cases hv;have hK:K (.int .i64 (bitI b)) []:=hK;refine aLw (aD (E:=E10) Tryz.checked.mixed (L:=fun _ _=>none) (n:=10) (aJ (q:=bif b then K (.int .i64 1) []else K (.int .i64 0) []) (by kernel_rfl) ?_))
 cases b<;>exact hK
def aEI:aZ Ob:=fun args h=>match args,h with
 | [.agg [.int .i64 n,.int .i64 w]],[]=>some (0<=w/\w<=62,.bool (aN n w))
 | _,_=>none
theorem aEJ:aI.ok E10.I Tryz.prog 293 aEI.spec:=by
 refine aZ.mk fun args h p v hv hw K hK=>?_;unfold aEI at hv;split at hv
 case h_2=>cases hv
 rename_i n w;cases hv;have hK:K (.bool (aN n w)) []:=hK;refine aLw (aD (E:=E10) Tryz.checked.mixed (L:=fun _ _=>none) (n:=10) (aJ (q:=bif ile 0 n then(0:Int)<=w/\K (.bool (ilt n (W (1*2^min (Int.toNat w) (IntKind.bits .i64))))) []else K (.bool false) []) (by kernel_rfl) ?_))
 unfold aN at hK;have hb:IntKind.bits .i64 =64:=rfl;have h2:min w.toNat 64=w.toNat:=by omega
 have h3:(2:Int)^w.toNat<=4611686018427387904:=BF (n:=62) omz dS;have h4:=kF w.toNat;refine aK (fun e=>⟨by omega,?_⟩) (fun e=>?_)
 ·rw [e]at hK;rw [hb,h2,W,Int.one_mul,cG omz];exact hK
 ·rw [e]at hK;exact hK
def aW(v:Int):Int:=(v+1)%262144
def TP:aZ Ob:=fun args h=>match args,h with
 | [.agg [.int .i64 k,.int .i64 x,.bool m,.int .i64 c,.int .i64 v],.int .i64 y],[]=>some (0<=v/\v<=1000000,.agg [.int .i64 k,.int .i64 y,.bool m,.int .i64 c,.int .i64 (aW v)])
 | _,_=>none
theorem aAY:aI.ok E10.I Tryz.prog 266 TP.spec:=by
 refine aZ.mk fun args h p v hv hw K hK=>?_;unfold TP at hv;split at hv
 case h_2=>cases hv
 rename_i k x m c v y;cases hv;have hK:K (.agg [.int .i64 k,.int .i64 y,.bool m,.int .i64 c,.int .i64 (aW v)]) []:=hK;refine aLw (aD (E:=E10) Tryz.checked.mixed (L:=fun _ _=>none) (n:=10) (aJ (q:=K (.agg [.int .i64 k,.int .i64 y,.bool m,.int .i64 c,.int .i64 (W (↑(BitVec.toNat (BitVec.ofInt (IntKind.bits .i64) (W (v+1))&&&BitVec.ofInt (IntKind.bits .i64) 262143)):Int))]) []) (by kernel_rfl) ?_))
 refine cast (congrArg (fun z=>K (.agg [.int .i64 k,.int .i64 y,.bool m,.int .i64 c,.int .i64 z]) []) ?_) hK;show aW v=_;have hb:IntKind.bits .i64 =64:=rfl;simp only [W];rw [hb,cG (x:=v+1) omz];have:=kS (n:=64) (w:=18) (v+1) omz;have e:(2:Int)^18 - 1=262143:=by decide
 rw [e]at this;rw [this];have e2:(2:Int)^18=262144:=by decide
 rw [e2,cG omz];rfl
noncomputable def E11:=((((E10.addR 171 aDO aDP).addR 297 aDE aDF).addR 293 aEI aEJ).addR 266 TP aAY)
def aE1:aZ Ob:=fun args h=>match args,h with
 | [.int .u64 x],[]=>some (True,.agg [.int .i64 (aB x 0 10),.int .i64 (aB x 10 9),.bool (ieq (aB x 19 1) 1),.int .i64 (aB x 20 5),.int .i64 (aB x 25 18)])
 | _,_=>none
set_option maxRecDepth 100000 in
theorem aE2:aI.ok E11.I Tryz.prog 133 aE1.spec:=by
 refine aZ.mk fun args h p v hv _ K hK=>?_;unfold aE1 at hv;split at hv
 case h_2=>cases hv
 rename_i x;cases hv;refine aLw (cM' (E:=E11) (q:=((0:Int)<=(0:Int)/\(0:Int)<(↑5:Int))/\((0:Int)<=(0:Int)/\(0:Int)<(↑1:Int))/\1+(1:Nat)<=(4294967296:Nat)/\((0:Int)<=W (0+1)/\W (0+1)<(↑5:Int))/\((0:Int)<=W (0+1)/\W (0+1)<(↑(1+1):Int))/\1+1+(1:Nat)<=(4294967296:Nat)/\((0:Int)<=W (W (0+1)+1)/\W (W (0+1)+1)<(↑5:Int))/\((0:Int)<=W (W (0+1)+1)/\W (W (0+1)+1)<(↑(1+1+1):Int))/\1+1+1+(1:Nat)<=(4294967296:Nat)/\((0:Int)<=W (W (W (0+1)+1)+1)/\W (W (W (0+1)+1)+1)<(↑5:Int))/\((0:Int)<=W (W (W (0+1)+1)+1)/\W (W (W (0+1)+1)+1)<(↑(1+1+1+1):Int))/\1+1+1+1+(1:Nat)<=(4294967296:Nat)/\((0:Int)<=W (W (W (W (0+1)+1)+1)+1)/\W (W (W (W (0+1)+1)+1)+1)<(↑5:Int))/\((0:Int)<=W (W (W (W (0+1)+1)+1)+1)/\W (W (W (W (0+1)+1)+1)+1)<(↑(1+1+1+1+1):Int))/\1+1+1+1+1+(1:Nat)<=(4294967296:Nat)/\((0:Int)<=(0:Int)/\(0:Int)<(↑(1+1+1+1+1+1):Int))/\(((0:Int)<=(0:Int)/\(0:Int)<=(63:Int))/\(0:Int)<=(10:Int)/\(10:Int)<=(62:Int))/\((0:Int)<=(1:Int)/\(1:Int)<(↑(1+1+1+1+1+1):Int))/\(((0:Int)<=W (0+10)/\W (0+10)<=(63:Int))/\(0:Int)<=(9:Int)/\(9:Int)<=(62:Int))/\((0:Int)<=(2:Int)/\(2:Int)<(↑(1+1+1+1+1+1):Int))/\(((0:Int)<=W (W (0+10)+9)/\W (W (0+10)+9)<=(63:Int))/\(0:Int)<=(1:Int)/\(1:Int)<=(62:Int))/\((0:Int)<=(3:Int)/\(3:Int)<(↑(1+1+1+1+1+1):Int))/\(((0:Int)<=W (W (W (0+10)+9)+1)/\W (W (W (0+10)+9)+1)<=(63:Int))/\(0:Int)<=(5:Int)/\(5:Int)<=(62:Int))/\((0:Int)<=(4:Int)/\(4:Int)<(↑(1+1+1+1+1+1):Int))/\(((0:Int)<=W (W (W (W (0+10)+9)+1)+5)/\W (W (W (W (0+10)+9)+1)+5)<=(63:Int))/\(0:Int)<=(18:Int)/\(18:Int)<=(62:Int))/\K (.agg [.int .i64 (aB x 0 10),.int .i64 (aB x (W (0+10)) 9),.bool (ieq (aB x (W (W (0+10)+9)) 1) 1),.int .i64 (aB x (W (W (W (0+10)+9)+1)) 5),.int .i64 (aB x (W (W (W (W (0+10)+9)+1)+5)) 18)]) []) (by kernel_rfl) ?_)
 simp(disch:=omega) only [W,cG,Int.reduceAdd,Int.zero_add]
 repeat refine⟨by omega,?_⟩
 exact hK
theorem mF{n w:Int} :aN n w=true↔0<=n/\n<2^w.toNat:=by
 unfold aN;simp only [cD,bC,Bool.and_eq_true,dT']
theorem hM{a:Nat}{x y p s q:Int}(e:p=2^a)(hx:0<=x/\x<p)(hy:0<=y)(h:y*p+x<=18446744073709551615)(hs:s=x+y*p)(eq:q=p):
 WU (((BitVec.ofInt 64 x|||BitVec.ofInt 64 (WU (WU y*q))).toNat :Int))=s:=by
 subst eq;have aa:0<=y*q:=Int.mul_nonneg hy omz
 have h1:y<=y*q:=by
  have:=Int.mul_le_mul_of_nonneg_left (show(1:Int)<=q by omega) hy
  omega
 have e1:WU y=y:=nT omz;rw [e1];have e2:WU (y*q)=y*q:=nT omz;rw [e2];subst e
 rw [w8 hx hy (by have:(2:Int)^64=18446744073709551616:=by decide
                  omega)]
 rw [hs];exact nT omz
theorem ZR(m:Bool):aN (bitI m) 1=true:=by cases m<;>rfl
theorem u7{n w:Int}(h:(!aN n w)=true):aN n w=false:=by simpa using h
theorem fD{n w:Int}(h:(!aN n w)=false):aN n w=true:=by simpa using h
def xI(k x:Int)(m:Bool)(c v:Int):Bool:=aN k 10&&(aN x 9&&(aN c 5&&aN v 18))
def cV(k x:Int)(m:Bool)(c v:Int):Int:=k+x*1024+bitI m*524288+c*1048576+v*33554432
def aF8:aZ Ob:=fun args h=>match args,h with
 | [.agg [.int .i64 k,.int .i64 x,.bool m,.int .i64 c,.int .i64 v]],[]=>some (True,.tup [.int .u64 (bif xI k x m c v then cV k x m c v else 0),.int .i64 (bif xI k x m c v then 0 else 2)])
 | _,_=>none
set_option maxRecDepth 100000 in
theorem aF9:aI.ok E11.I Tryz.prog 263 aF8.spec:=by
 refine aZ.mk fun args h p v hv _ K hK=>?_;unfold aF8 at hv;split at hv
 case h_2=>cases hv
 rename_i k x m c v;cases hv;refine aLw (cM' (E:=E11) (q:=True/\((0:Int)<=(0:Int)/\(0:Int)<(↑5:Int))/\((0:Int)<=(10:Int)/\(10:Int)<=(62:Int))/\bif !aN k 10 then K (.tup [.int .u64 0,.int .i64 2]) []else(0:Int)<=(0:Int)/\((0:Int)<=W (0+1)/\W (0+1)<(↑5:Int))/\((0:Int)<=(9:Int)/\(9:Int)<=(62:Int))/\bif !aN x 9 then K (.tup [.int .u64 0,.int .i64 2]) []else(0:Int)<=W (0+10)/\((0:Int)<=W (W (0+1)+1)/\W (W (0+1)+1)<(↑5:Int))/\((0:Int)<=(1:Int)/\(1:Int)<=(62:Int))/\bif !aN (bitI m) 1 then K (.tup [.int .u64 0,.int .i64 2]) []else(0:Int)<=W (W (0+10)+9)/\((0:Int)<=W (W (W (0+1)+1)+1)/\W (W (W (0+1)+1)+1)<(↑5:Int))/\((0:Int)<=(5:Int)/\(5:Int)<=(62:Int))/\bif !aN c 5 then K (.tup [.int .u64 0,.int .i64 2]) []else(0:Int)<=W (W (W (0+10)+9)+1)/\((0:Int)<=W (W (W (W (0+1)+1)+1)+1)/\W (W (W (W (0+1)+1)+1)+1)<(↑5:Int))/\((0:Int)<=(18:Int)/\(18:Int)<=(62:Int))/\bif !aN v 18 then K (.tup [.int .u64 0,.int .i64 2]) []else(0:Int)<=W (W (W (W (0+10)+9)+1)+5)/\K (.tup [.int .u64 (WU (↑(BitVec.toNat (BitVec.ofInt (IntKind.bits .u64) (WU (↑(BitVec.toNat (BitVec.ofInt (IntKind.bits .u64) (WU (↑(BitVec.toNat (BitVec.ofInt (IntKind.bits .u64) (WU (↑(BitVec.toNat (BitVec.ofInt (IntKind.bits .u64) (WU (↑(BitVec.toNat (BitVec.ofInt (IntKind.bits .u64) 0|||BitVec.ofInt (IntKind.bits .u64) (WU (WU k*2^min (Int.toNat 0) (IntKind.bits .u64))))):Int))|||BitVec.ofInt (IntKind.bits .u64) (WU (WU x*2^min (Int.toNat (W (0+10))) (IntKind.bits .u64))))):Int))|||BitVec.ofInt (IntKind.bits .u64) (WU (WU (bitI m)*2^min (Int.toNat (W (W (0+10)+9))) (IntKind.bits .u64))))):Int))|||BitVec.ofInt (IntKind.bits .u64) (WU (WU c*2^min (Int.toNat (W (W (W (0+10)+9)+1))) (IntKind.bits .u64))))):Int))|||BitVec.ofInt (IntKind.bits .u64) (WU (WU v*2^min (Int.toNat (W (W (W (W (0+10)+9)+1)+5))) (IntKind.bits .u64))))):Int)),.int .i64 0]) []) (by kernel_rfl) ?_)
 simp(disch:=omega) only [W,cG,Int.reduceAdd,Int.zero_add,Int.reduceToNat]
 refine⟨trivial,⟨by omega,by omega⟩,by omega,aK (fun e=>?_) (fun e1=>⟨by omega,by omega,by omega,aK (fun e=>?_) (fun e2=>⟨by omega,by omega,by omega,aK (fun e=>?_) (fun _=>⟨by omega,by omega,by omega,aK (fun e=>?_) (fun e3=>⟨by omega,by omega,by omega,aK (fun e=>?_) (fun e4=>⟨by omega,?_⟩)⟩)⟩)⟩)⟩)⟩
 ·unfold xI at hK;rw [u7 e]at hK;exact hK
 ·unfold xI at hK;rw [fD e1,u7 e]at hK;exact hK
 ·rw [ZR]at e;cases e
 ·unfold xI at hK;rw [fD e1,fD e2,u7 e]at hK;exact hK
 ·unfold xI at hK;rw [fD e1,fD e2,fD e3,u7 e]at hK;exact hK
 ·unfold xI at hK;rw [fD e1,fD e2,fD e3,fD e4]at hK;have f1:=mF.1 (fD e1);have f2:=mF.1 (fD e2);have f3:=mF.1 (fD e3);have f4:=mF.1 (fD e4);have fm:0<=bitI m/\bitI m<=1:=by cases m<;>decide
  have hb:IntKind.bits .u64 =64:=rfl;have p1:(2:Int)^(10:Int).toNat =1024:=by decide
  have p2:(2:Int)^(9:Int).toNat =512:=by decide
  have p3:(2:Int)^(5:Int).toNat =32:=by decide
  have p4:(2:Int)^(18:Int).toNat =262144:=by decide
  rw [p1]at f1;rw [p2]at f2;rw [p3]at f3;rw [p4]at f4;refine cast (congrArg (fun z=>K (AVal.tup [.int .u64 z,.int .i64 0]) []) ?_) hK;show cV k x m c v=_;unfold cV;symm;have q0:=hM (a:=0) (x:=0) (y:=k) (p:=1) (q:=2^min 0 64) (s:=k) dS omz omz omz omz dS;have q1:=hM (a:=10) (x:=k) (y:=x) (p:=1024) (q:=2^min 10 64) (s:=k+x*1024) dS omz omz omz omz dS;have q2:=hM (a:=19) (x:=k+x*1024) (y:=bitI m) (p:=524288) (q:=2^min 19 64) (s:=k+x*1024+bitI m*524288) dS omz omz omz omz dS;have q3:=hM (a:=20) (x:=k+x*1024+bitI m*524288) (y:=c) (p:=1048576) (q:=2^min 20 64) (s:=k+x*1024+bitI m*524288+c*1048576) dS omz omz omz omz dS;have q4:=hM (a:=25) (x:=k+x*1024+bitI m*524288+c*1048576) (y:=v) (p:=33554432) (q:=2^min 25 64) (s:=k+x*1024+bitI m*524288+c*1048576+v*33554432) dS omz omz omz omz dS;rw [hb];rw [WU]at q0 q1 q2 q3 q4;simp only [WU]at q0 q1 q2 q3 q4⊢;rw [q0,q1,q2,q3,q4]
noncomputable def E12:=(E11.addR 133 aE1 aE2).addR 263 aF8 aF9
noncomputable def E13a:=E12
theorem zS{x:Int}(h: -9223372036854775808<=x/\x<=9223372036854775807):W x=x:=cG h
noncomputable def E13:=E13a
theorem aBM{x t:Int}(h:0<=x)(ht:1<=t):0<=Int.tmod x t/\Int.tmod x t<t:=by
 rw [Int.tmod_eq_emod_of_nonneg h];exact⟨Int.emod_nonneg _ omz,Int.emod_lt_of_pos _ omz⟩
noncomputable def E14:=E13
theorem ZE(x:Int){b:Int}(h:0<b):0<=x%b/\x%b<b:=⟨Int.emod_nonneg _ omz,Int.emod_lt_of_pos _ h⟩
theorem YI{x a w:Int} :0<=aB x a w/\aB x a w<2^w.toNat:=ZE _ (kF _)
noncomputable def E15:=(E14)
structure TS where
 i:Int
 bad:Bool
 out:Bool
instance:Inhabited TS:=⟨⟨0,false,false⟩⟩
def a0(r:List Int):Int:=List.headD r 0
def a1(r:List Int):Int:=List.headD (List.tail r) 0
def a2(r:List Int):Int:=List.headD (List.tail (List.tail r)) 0
def a3(r:List Int):Int:=List.headD (List.tail (List.tail (List.tail r))) 0
def a4(r:List Int):Bool:=!ieq (List.headD (List.tail (List.tail (List.tail (List.tail r)))) 0) 0
theorem aFP{b:Bool}(h:(!b)=true):b=false:=by simpa using h
theorem aFO{b:Bool}(h:(!b)=false):b=true:=by simpa using h
noncomputable def E16a:=(E15)
noncomputable def E16:=((((E16a))))
structure okW (xs:List Int):Prop where
 h: ∀x∈xs,0<=x/\x<=18446744073709551615
theorem w7{xs:List Int}(h:okW xs)(a:Int):0<=aE xs a/\aE xs a<=18446744073709551615:=by
 unfold aE;split
 ·rename_i hi;have aa:a.toNat<xs.length:=by omega
  rw [gD',gE' aa];exact h.h _ (List.getElem_mem aa)
 ·omega
def oN(s:Int):Bool:=ile 1 s&&ile s 4
def resC(d e:Int):Int:=bif ieq e 5 then(bif ieq d 1 then 4 else 0)else 5
def aBp(d e:Int)(m:Bool):Bool:=bif ieq e 5 then(bif ieq d 1 then false else m)else false
def aBq(d e f:Int):Int:=bif ieq e 5 then(bif ieq d 1 then 0 else f)else 0
def cP(a b c d:Int)(m:Bool)(e f:Int):Int:=a+b*4096+c*2097152+d*549755813888+bitI m*281474976710656+e*562949953421312+f*4503599627370496
def dOk(a b c d e f:Int):Bool:=aN a 12&&(aN b 9&&(aN c 18&&(aN d 9&&(aN e 3&&aN f 10))))
theorem YJ{x a w:Int}(ha:0<=a/\a<=63)(hw:0<=w/\w<=62):IntKind.wrap .i64 (IntKind.wrap .u64 ((BitVec.ofInt (IntKind.bits .u64) (Int.fdiv x (2^min (Int.toNat a) (IntKind.bits .u64)))&&&BitVec.ofInt (IntKind.bits .u64) (IntKind.wrap .u64 (IntKind.wrap .u64 (1*2^min (Int.toNat w) (IntKind.bits .u64)) - 1))).toNat :Int))=aB x a w:=by
 have hb:IntKind.bits .u64 =64:=rfl;rw [hb];have h1:min a.toNat 64=a.toNat:=by omega
 have h2:min w.toNat 64=w.toNat:=by omega
 have h3:(2:Int)^w.toNat<=4611686018427387904:=BF (n:=62) omz dS;have h4:=kF w.toNat;have h5:=kF a.toNat;rw [h1,h2,Int.fdiv_eq_ediv_of_nonneg _ omz];simp only [WU,W,Int.one_mul];rw [nT (x:=2^w.toNat) omz,nT (x:=2^w.toNat - 1) omz,kS _ omz];have h6:=Int.emod_nonneg (x / 2^a.toNat) (b:=2^w.toNat) omz;have h7:=Int.emod_lt_of_pos (x / 2^a.toNat) (b:=2^w.toNat) omz;rw [nT omz,cG omz];rfl
def RK:aZ Ob:=fun args h=>match args,h with
 | [.int .u64 x],[]=>some (True,.agg [.int .i64 (aB x 0 12),.int .i64 (aB x 12 9),.int .i64 (aB x 21 18),.int .i64 (aB x 39 9),.bool (ieq (aB x 48 1) 1),.int .i64 (aB x 49 3),.int .i64 (aB x 52 10)])
 | _,_=>none
set_option maxRecDepth 100000 in
theorem YN:aI.ok E16.I Tryz.prog 190 RK.spec:=by
 refine aZ.mk fun args h p v hv hp K hK=>?_;unfold RK at hv;split at hv
 case h_2=>cases hv
 rename_i x;cases hv;have hK:K (.agg [.int .i64 (aB x 0 12),.int .i64 (aB x 12 9),.int .i64 (aB x 21 18),.int .i64 (aB x 39 9),.bool (ieq (aB x 48 1) 1),.int .i64 (aB x 49 3),.int .i64 (aB x 52 10)]) []:=hK;refine aLw (cM' (E:=E16) (q:=((0:Int)<=(0:Int)/\(0:Int)<(↑7:Int))/\((0:Int)<=(0:Int)/\(0:Int)<(↑1:Int))/\1+(1:Nat)<=(4294967296:Nat)/\((0:Int)<=W (0+1)/\W (0+1)<(↑7:Int))/\((0:Int)<=W (0+1)/\W (0+1)<(↑(1+1):Int))/\1+1+(1:Nat)<=(4294967296:Nat)/\((0:Int)<=W (W (0+1)+1)/\W (W (0+1)+1)<(↑7:Int))/\((0:Int)<=W (W (0+1)+1)/\W (W (0+1)+1)<(↑(1+1+1):Int))/\1+1+1+(1:Nat)<=(4294967296:Nat)/\((0:Int)<=W (W (W (0+1)+1)+1)/\W (W (W (0+1)+1)+1)<(↑7:Int))/\((0:Int)<=W (W (W (0+1)+1)+1)/\W (W (W (0+1)+1)+1)<(↑(1+1+1+1):Int))/\1+1+1+1+(1:Nat)<=(4294967296:Nat)/\((0:Int)<=W (W (W (W (0+1)+1)+1)+1)/\W (W (W (W (0+1)+1)+1)+1)<(↑7:Int))/\((0:Int)<=W (W (W (W (0+1)+1)+1)+1)/\W (W (W (W (0+1)+1)+1)+1)<(↑(1+1+1+1+1):Int))/\1+1+1+1+1+(1:Nat)<=(4294967296:Nat)/\((0:Int)<=W (W (W (W (W (0+1)+1)+1)+1)+1)/\W (W (W (W (W (0+1)+1)+1)+1)+1)<(↑7:Int))/\((0:Int)<=W (W (W (W (W (0+1)+1)+1)+1)+1)/\W (W (W (W (W (0+1)+1)+1)+1)+1)<(↑(1+1+1+1+1+1):Int))/\1+1+1+1+1+1+(1:Nat)<=(4294967296:Nat)/\((0:Int)<=W (W (W (W (W (W (0+1)+1)+1)+1)+1)+1)/\W (W (W (W (W (W (0+1)+1)+1)+1)+1)+1)<(↑7:Int))/\((0:Int)<=W (W (W (W (W (W (0+1)+1)+1)+1)+1)+1)/\W (W (W (W (W (W (0+1)+1)+1)+1)+1)+1)<(↑(1+1+1+1+1+1+1):Int))/\1+1+1+1+1+1+1+(1:Nat)<=(4294967296:Nat)/\((0:Int)<=(0:Int)/\(0:Int)<(↑(1+1+1+1+1+1+1+1):Int))/\(0:Int)<=(0:Int)/\((0:Int)<=(0:Int)/\(0:Int)<(↑7:Int))/\(0:Int)<=(12:Int)/\((0:Int)<=(0:Int)/\(0:Int)<(↑7:Int))/\((0:Int)<=W (0+1)/\W (0+1)<(↑(1+1+1+1+1+1+1+1):Int))/\(0:Int)<=W (0+12)/\((0:Int)<=W (0+1)/\W (0+1)<(↑7:Int))/\(0:Int)<=(9:Int)/\((0:Int)<=W (0+1)/\W (0+1)<(↑7:Int))/\((0:Int)<=W (W (0+1)+1)/\W (W (0+1)+1)<(↑(1+1+1+1+1+1+1+1):Int))/\(0:Int)<=W (W (0+12)+9)/\((0:Int)<=W (W (0+1)+1)/\W (W (0+1)+1)<(↑7:Int))/\(0:Int)<=(18:Int)/\((0:Int)<=W (W (0+1)+1)/\W (W (0+1)+1)<(↑7:Int))/\((0:Int)<=W (W (W (0+1)+1)+1)/\W (W (W (0+1)+1)+1)<(↑(1+1+1+1+1+1+1+1):Int))/\(0:Int)<=W (W (W (0+12)+9)+18)/\((0:Int)<=W (W (W (0+1)+1)+1)/\W (W (W (0+1)+1)+1)<(↑7:Int))/\(0:Int)<=(9:Int)/\((0:Int)<=W (W (W (0+1)+1)+1)/\W (W (W (0+1)+1)+1)<(↑7:Int))/\((0:Int)<=W (W (W (W (0+1)+1)+1)+1)/\W (W (W (W (0+1)+1)+1)+1)<(↑(1+1+1+1+1+1+1+1):Int))/\(0:Int)<=W (W (W (W (0+12)+9)+18)+9)/\((0:Int)<=W (W (W (W (0+1)+1)+1)+1)/\W (W (W (W (0+1)+1)+1)+1)<(↑7:Int))/\(0:Int)<=(1:Int)/\((0:Int)<=W (W (W (W (0+1)+1)+1)+1)/\W (W (W (W (0+1)+1)+1)+1)<(↑7:Int))/\((0:Int)<=W (W (W (W (W (0+1)+1)+1)+1)+1)/\W (W (W (W (W (0+1)+1)+1)+1)+1)<(↑(1+1+1+1+1+1+1+1):Int))/\(0:Int)<=W (W (W (W (W (0+12)+9)+18)+9)+1)/\((0:Int)<=W (W (W (W (W (0+1)+1)+1)+1)+1)/\W (W (W (W (W (0+1)+1)+1)+1)+1)<(↑7:Int))/\(0:Int)<=(3:Int)/\((0:Int)<=W (W (W (W (W (0+1)+1)+1)+1)+1)/\W (W (W (W (W (0+1)+1)+1)+1)+1)<(↑7:Int))/\((0:Int)<=W (W (W (W (W (W (0+1)+1)+1)+1)+1)+1)/\W (W (W (W (W (W (0+1)+1)+1)+1)+1)+1)<(↑(1+1+1+1+1+1+1+1):Int))/\(0:Int)<=W (W (W (W (W (W (0+12)+9)+18)+9)+1)+3)/\((0:Int)<=W (W (W (W (W (W (0+1)+1)+1)+1)+1)+1)/\W (W (W (W (W (W (0+1)+1)+1)+1)+1)+1)<(↑7:Int))/\(0:Int)<=(10:Int)/\((0:Int)<=W (W (W (W (W (W (0+1)+1)+1)+1)+1)+1)/\W (W (W (W (W (W (0+1)+1)+1)+1)+1)+1)<(↑7:Int))/\((0:Int)<=(0:Int)/\(0:Int)<(↑7:Int))/\((0:Int)<=(1:Int)/\(1:Int)<(↑7:Int))/\((0:Int)<=(2:Int)/\(2:Int)<(↑7:Int))/\((0:Int)<=(3:Int)/\(3:Int)<(↑7:Int))/\((0:Int)<=(4:Int)/\(4:Int)<(↑7:Int))/\((0:Int)<=(5:Int)/\(5:Int)<(↑7:Int))/\((0:Int)<=(6:Int)/\(6:Int)<(↑7:Int))/\K (.agg [.int .i64 (W (WU (↑(BitVec.toNat (BitVec.ofInt (IntKind.bits .u64) (Int.fdiv x (2^min (Int.toNat 0) (IntKind.bits .u64)))&&&BitVec.ofInt (IntKind.bits .u64) (WU (WU (1*2^min (Int.toNat 12) (IntKind.bits .u64)) - 1)))):Int))),.int .i64 (W (WU (↑(BitVec.toNat (BitVec.ofInt (IntKind.bits .u64) (Int.fdiv x (2^min (Int.toNat (W (0+12))) (IntKind.bits .u64)))&&&BitVec.ofInt (IntKind.bits .u64) (WU (WU (1*2^min (Int.toNat 9) (IntKind.bits .u64)) - 1)))):Int))),.int .i64 (W (WU (↑(BitVec.toNat (BitVec.ofInt (IntKind.bits .u64) (Int.fdiv x (2^min (Int.toNat (W (W (0+12)+9))) (IntKind.bits .u64)))&&&BitVec.ofInt (IntKind.bits .u64) (WU (WU (1*2^min (Int.toNat 18) (IntKind.bits .u64)) - 1)))):Int))),.int .i64 (W (WU (↑(BitVec.toNat (BitVec.ofInt (IntKind.bits .u64) (Int.fdiv x (2^min (Int.toNat (W (W (W (0+12)+9)+18))) (IntKind.bits .u64)))&&&BitVec.ofInt (IntKind.bits .u64) (WU (WU (1*2^min (Int.toNat 9) (IntKind.bits .u64)) - 1)))):Int))),.bool (ieq (W (WU (↑(BitVec.toNat (BitVec.ofInt (IntKind.bits .u64) (Int.fdiv x (2^min (Int.toNat (W (W (W (W (0+12)+9)+18)+9))) (IntKind.bits .u64)))&&&BitVec.ofInt (IntKind.bits .u64) (WU (WU (1*2^min (Int.toNat 1) (IntKind.bits .u64)) - 1)))):Int))) 1),.int .i64 (W (WU (↑(BitVec.toNat (BitVec.ofInt (IntKind.bits .u64) (Int.fdiv x (2^min (Int.toNat (W (W (W (W (W (0+12)+9)+18)+9)+1))) (IntKind.bits .u64)))&&&BitVec.ofInt (IntKind.bits .u64) (WU (WU (1*2^min (Int.toNat 3) (IntKind.bits .u64)) - 1)))):Int))),.int .i64 (W (WU (↑(BitVec.toNat (BitVec.ofInt (IntKind.bits .u64) (Int.fdiv x (2^min (Int.toNat (W (W (W (W (W (W (0+12)+9)+18)+9)+1)+3))) (IntKind.bits .u64)))&&&BitVec.ofInt (IntKind.bits .u64) (WU (WU (1*2^min (Int.toNat 10) (IntKind.bits .u64)) - 1)))):Int)))]) []) (by kernel_rfl) ?_)
 simp(disch:=omega) only [W,WU,cG,Int.reduceAdd,Int.zero_add]
 simp(disch:=omega) only [YJ]
 repeat refine⟨by omega,?_⟩
 exact hK
theorem KK{a b:Int}{X Y:Prop}(h1:a<b->X)(h2:b<=a->Y):cond (ilt a b) X Y:=
 aK (fun e=>h1 (by rw [bC,dT']at e;exact e)) (fun e=>h2 (by rw [bC,dF']at e;omega))
theorem yX{a b:Int}{X Y:Prop}(h1:a<=b->X)(h2:b<a->Y):cond (ile a b) X Y:=
 aK (fun e=>h1 (by rw [cD,dT']at e;exact e)) (fun e=>h2 (by rw [cD,dF']at e;omega))
theorem JK{a b:Int}{X Y:Prop}(h1:a=b->X)(h2:a≠b->Y):cond (ieq a b) X Y:=
 aK (fun e=>h1 (by rw [cI]at e;simpa using e)) (fun e=>h2 (by rw [cI]at e;simpa using e))
theorem rJ{a b c d e f:Int} :dOk a b c d e f=true↔(0<=a/\a<4096)/\(0<=b/\b<512)/\(0<=c/\c<262144)/\(0<=d/\d<512)/\(0<=e/\e<8)/\(0<=f/\f<1024):=by
 unfold dOk;simp only [Bool.and_eq_true,mF]<;>rfl
def RL:aZ Ob:=fun args h=>match args,h with
 | [.agg [.int .i64 a,.int .i64 b,.int .i64 c,.int .i64 d,.bool m,.int .i64 e,.int .i64 f]],[]=>some (True,.tup [.int .u64 (bif dOk a b c d e f then cP a b c d m e f else 0),.int .i64 (bif dOk a b c d e f then 0 else 2)])
 | _,_=>none
set_option maxRecDepth 100000 in
theorem YO:aI.ok E16.I Tryz.prog 199 RL.spec:=by
 refine aZ.mk fun args h p v hv hp K hK=>?_;unfold RL at hv;split at hv
 case h_2=>cases hv
 rename_i a b c d m e f;cases hv;have hK:K (.tup [.int .u64 (bif dOk a b c d e f then cP a b c d m e f else 0),.int .i64 (bif dOk a b c d e f then 0 else 2)]) []:=hK;refine aLw (cM' (E:=E16) (q:=((0:Int)<=(0:Int)/\(0:Int)<(↑7:Int))/\((0:Int)<=(0:Int)/\(0:Int)<(↑1:Int))/\1+(1:Nat)<=(4294967296:Nat)/\((0:Int)<=W (0+1)/\W (0+1)<(↑7:Int))/\((0:Int)<=W (0+1)/\W (0+1)<(↑(1+1):Int))/\1+1+(1:Nat)<=(4294967296:Nat)/\((0:Int)<=W (W (0+1)+1)/\W (W (0+1)+1)<(↑7:Int))/\((0:Int)<=W (W (0+1)+1)/\W (W (0+1)+1)<(↑(1+1+1):Int))/\1+1+1+(1:Nat)<=(4294967296:Nat)/\((0:Int)<=W (W (W (0+1)+1)+1)/\W (W (W (0+1)+1)+1)<(↑7:Int))/\((0:Int)<=W (W (W (0+1)+1)+1)/\W (W (W (0+1)+1)+1)<(↑(1+1+1+1):Int))/\1+1+1+1+(1:Nat)<=(4294967296:Nat)/\((0:Int)<=W (W (W (W (0+1)+1)+1)+1)/\W (W (W (W (0+1)+1)+1)+1)<(↑7:Int))/\((0:Int)<=W (W (W (W (0+1)+1)+1)+1)/\W (W (W (W (0+1)+1)+1)+1)<(↑(1+1+1+1+1):Int))/\1+1+1+1+1+(1:Nat)<=(4294967296:Nat)/\((0:Int)<=W (W (W (W (W (0+1)+1)+1)+1)+1)/\W (W (W (W (W (0+1)+1)+1)+1)+1)<(↑7:Int))/\((0:Int)<=W (W (W (W (W (0+1)+1)+1)+1)+1)/\W (W (W (W (W (0+1)+1)+1)+1)+1)<(↑(1+1+1+1+1+1):Int))/\1+1+1+1+1+1+(1:Nat)<=(4294967296:Nat)/\((0:Int)<=W (W (W (W (W (W (0+1)+1)+1)+1)+1)+1)/\W (W (W (W (W (W (0+1)+1)+1)+1)+1)+1)<(↑7:Int))/\((0:Int)<=W (W (W (W (W (W (0+1)+1)+1)+1)+1)+1)/\W (W (W (W (W (W (0+1)+1)+1)+1)+1)+1)<(↑(1+1+1+1+1+1+1):Int))/\1+1+1+1+1+1+1+(1:Nat)<=(4294967296:Nat)/\bif m then((0:Int)<=(0:Int)/\(0:Int)<(↑7:Int))/\bif ilt a 0 then K (.tup [.int .u64 0,.int .i64 2]) []else((0:Int)<=(0:Int)/\(0:Int)<(↑7:Int))/\(0:Int)<=(12:Int)/\bif ile (W (1*2^min (Int.toNat 12) (IntKind.bits .i64))) a then K (.tup [.int .u64 0,.int .i64 2]) []else((0:Int)<=(0:Int)/\(0:Int)<(↑(1+1+1+1+1+1+1+1):Int))/\(0:Int)<=(0:Int)/\((0:Int)<=W (0+1)/\W (0+1)<(↑7:Int))/\bif ilt b 0 then K (.tup [.int .u64 0,.int .i64 2]) []else((0:Int)<=W (0+1)/\W (0+1)<(↑7:Int))/\(0:Int)<=(9:Int)/\bif ile (W (1*2^min (Int.toNat 9) (IntKind.bits .i64))) b then K (.tup [.int .u64 0,.int .i64 2]) []else((0:Int)<=W (0+1)/\W (0+1)<(↑(1+1+1+1+1+1+1+1):Int))/\(0:Int)<=W (0+12)/\((0:Int)<=W (W (0+1)+1)/\W (W (0+1)+1)<(↑7:Int))/\bif ilt c 0 then K (.tup [.int .u64 0,.int .i64 2]) []else((0:Int)<=W (W (0+1)+1)/\W (W (0+1)+1)<(↑7:Int))/\(0:Int)<=(18:Int)/\bif ile (W (1*2^min (Int.toNat 18) (IntKind.bits .i64))) c then K (.tup [.int .u64 0,.int .i64 2]) []else((0:Int)<=W (W (0+1)+1)/\W (W (0+1)+1)<(↑(1+1+1+1+1+1+1+1):Int))/\(0:Int)<=W (W (0+12)+9)/\((0:Int)<=W (W (W (0+1)+1)+1)/\W (W (W (0+1)+1)+1)<(↑7:Int))/\bif ilt d 0 then K (.tup [.int .u64 0,.int .i64 2]) []else((0:Int)<=W (W (W (0+1)+1)+1)/\W (W (W (0+1)+1)+1)<(↑7:Int))/\(0:Int)<=(9:Int)/\bif ile (W (1*2^min (Int.toNat 9) (IntKind.bits .i64))) d then K (.tup [.int .u64 0,.int .i64 2]) []else((0:Int)<=W (W (W (0+1)+1)+1)/\W (W (W (0+1)+1)+1)<(↑(1+1+1+1+1+1+1+1):Int))/\(0:Int)<=W (W (W (0+12)+9)+18)/\((0:Int)<=W (W (W (W (0+1)+1)+1)+1)/\W (W (W (W (0+1)+1)+1)+1)<(↑7:Int))/\((0:Int)<=W (W (W (W (0+1)+1)+1)+1)/\W (W (W (W (0+1)+1)+1)+1)<(↑7:Int))/\(0:Int)<=(1:Int)/\((0:Int)<=W (W (W (W (0+1)+1)+1)+1)/\W (W (W (W (0+1)+1)+1)+1)<(↑(1+1+1+1+1+1+1+1):Int))/\(0:Int)<=W (W (W (W (0+12)+9)+18)+9)/\((0:Int)<=W (W (W (W (W (0+1)+1)+1)+1)+1)/\W (W (W (W (W (0+1)+1)+1)+1)+1)<(↑7:Int))/\bif ilt e 0 then K (.tup [.int .u64 0,.int .i64 2]) []else((0:Int)<=W (W (W (W (W (0+1)+1)+1)+1)+1)/\W (W (W (W (W (0+1)+1)+1)+1)+1)<(↑7:Int))/\(0:Int)<=(3:Int)/\bif ile (W (1*2^min (Int.toNat 3) (IntKind.bits .i64))) e then K (.tup [.int .u64 0,.int .i64 2]) []else((0:Int)<=W (W (W (W (W (0+1)+1)+1)+1)+1)/\W (W (W (W (W (0+1)+1)+1)+1)+1)<(↑(1+1+1+1+1+1+1+1):Int))/\(0:Int)<=W (W (W (W (W (0+12)+9)+18)+9)+1)/\((0:Int)<=W (W (W (W (W (W (0+1)+1)+1)+1)+1)+1)/\W (W (W (W (W (W (0+1)+1)+1)+1)+1)+1)<(↑7:Int))/\bif ilt f 0 then K (.tup [.int .u64 0,.int .i64 2]) []else((0:Int)<=W (W (W (W (W (W (0+1)+1)+1)+1)+1)+1)/\W (W (W (W (W (W (0+1)+1)+1)+1)+1)+1)<(↑7:Int))/\(0:Int)<=(10:Int)/\bif ile (W (1*2^min (Int.toNat 10) (IntKind.bits .i64))) f then K (.tup [.int .u64 0,.int .i64 2]) []else((0:Int)<=W (W (W (W (W (W (0+1)+1)+1)+1)+1)+1)/\W (W (W (W (W (W (0+1)+1)+1)+1)+1)+1)<(↑(1+1+1+1+1+1+1+1):Int))/\(0:Int)<=W (W (W (W (W (W (0+12)+9)+18)+9)+1)+3)/\K (.tup [.int .u64 (WU (↑(BitVec.toNat (BitVec.ofInt (IntKind.bits .u64) (WU (↑(BitVec.toNat (BitVec.ofInt (IntKind.bits .u64) (WU (↑(BitVec.toNat (BitVec.ofInt (IntKind.bits .u64) (WU (↑(BitVec.toNat (BitVec.ofInt (IntKind.bits .u64) (WU (↑(BitVec.toNat (BitVec.ofInt (IntKind.bits .u64) (WU (↑(BitVec.toNat (BitVec.ofInt (IntKind.bits .u64) (WU (↑(BitVec.toNat (BitVec.ofInt (IntKind.bits .u64) 0|||BitVec.ofInt (IntKind.bits .u64) (WU (WU a*2^min (Int.toNat 0) (IntKind.bits .u64))))):Int))|||BitVec.ofInt (IntKind.bits .u64) (WU (WU b*2^min (Int.toNat (W (0+12))) (IntKind.bits .u64))))):Int))|||BitVec.ofInt (IntKind.bits .u64) (WU (WU c*2^min (Int.toNat (W (W (0+12)+9))) (IntKind.bits .u64))))):Int))|||BitVec.ofInt (IntKind.bits .u64) (WU (WU d*2^min (Int.toNat (W (W (W (0+12)+9)+18))) (IntKind.bits .u64))))):Int))|||BitVec.ofInt (IntKind.bits .u64) (WU (WU 1*2^min (Int.toNat (W (W (W (W (0+12)+9)+18)+9))) (IntKind.bits .u64))))):Int))|||BitVec.ofInt (IntKind.bits .u64) (WU (WU e*2^min (Int.toNat (W (W (W (W (W (0+12)+9)+18)+9)+1))) (IntKind.bits .u64))))):Int))|||BitVec.ofInt (IntKind.bits .u64) (WU (WU f*2^min (Int.toNat (W (W (W (W (W (W (0+12)+9)+18)+9)+1)+3))) (IntKind.bits .u64))))):Int)),.int .i64 0]) []else((0:Int)<=(0:Int)/\(0:Int)<(↑7:Int))/\bif ilt a 0 then K (.tup [.int .u64 0,.int .i64 2]) []else((0:Int)<=(0:Int)/\(0:Int)<(↑7:Int))/\(0:Int)<=(12:Int)/\bif ile (W (1*2^min (Int.toNat 12) (IntKind.bits .i64))) a then K (.tup [.int .u64 0,.int .i64 2]) []else((0:Int)<=(0:Int)/\(0:Int)<(↑(1+1+1+1+1+1+1+1):Int))/\(0:Int)<=(0:Int)/\((0:Int)<=W (0+1)/\W (0+1)<(↑7:Int))/\bif ilt b 0 then K (.tup [.int .u64 0,.int .i64 2]) []else((0:Int)<=W (0+1)/\W (0+1)<(↑7:Int))/\(0:Int)<=(9:Int)/\bif ile (W (1*2^min (Int.toNat 9) (IntKind.bits .i64))) b then K (.tup [.int .u64 0,.int .i64 2]) []else((0:Int)<=W (0+1)/\W (0+1)<(↑(1+1+1+1+1+1+1+1):Int))/\(0:Int)<=W (0+12)/\((0:Int)<=W (W (0+1)+1)/\W (W (0+1)+1)<(↑7:Int))/\bif ilt c 0 then K (.tup [.int .u64 0,.int .i64 2]) []else((0:Int)<=W (W (0+1)+1)/\W (W (0+1)+1)<(↑7:Int))/\(0:Int)<=(18:Int)/\bif ile (W (1*2^min (Int.toNat 18) (IntKind.bits .i64))) c then K (.tup [.int .u64 0,.int .i64 2]) []else((0:Int)<=W (W (0+1)+1)/\W (W (0+1)+1)<(↑(1+1+1+1+1+1+1+1):Int))/\(0:Int)<=W (W (0+12)+9)/\((0:Int)<=W (W (W (0+1)+1)+1)/\W (W (W (0+1)+1)+1)<(↑7:Int))/\bif ilt d 0 then K (.tup [.int .u64 0,.int .i64 2]) []else((0:Int)<=W (W (W (0+1)+1)+1)/\W (W (W (0+1)+1)+1)<(↑7:Int))/\(0:Int)<=(9:Int)/\bif ile (W (1*2^min (Int.toNat 9) (IntKind.bits .i64))) d then K (.tup [.int .u64 0,.int .i64 2]) []else((0:Int)<=W (W (W (0+1)+1)+1)/\W (W (W (0+1)+1)+1)<(↑(1+1+1+1+1+1+1+1):Int))/\(0:Int)<=W (W (W (0+12)+9)+18)/\((0:Int)<=W (W (W (W (0+1)+1)+1)+1)/\W (W (W (W (0+1)+1)+1)+1)<(↑7:Int))/\((0:Int)<=W (W (W (W (0+1)+1)+1)+1)/\W (W (W (W (0+1)+1)+1)+1)<(↑7:Int))/\(0:Int)<=(1:Int)/\((0:Int)<=W (W (W (W (0+1)+1)+1)+1)/\W (W (W (W (0+1)+1)+1)+1)<(↑(1+1+1+1+1+1+1+1):Int))/\(0:Int)<=W (W (W (W (0+12)+9)+18)+9)/\((0:Int)<=W (W (W (W (W (0+1)+1)+1)+1)+1)/\W (W (W (W (W (0+1)+1)+1)+1)+1)<(↑7:Int))/\bif ilt e 0 then K (.tup [.int .u64 0,.int .i64 2]) []else((0:Int)<=W (W (W (W (W (0+1)+1)+1)+1)+1)/\W (W (W (W (W (0+1)+1)+1)+1)+1)<(↑7:Int))/\(0:Int)<=(3:Int)/\bif ile (W (1*2^min (Int.toNat 3) (IntKind.bits .i64))) e then K (.tup [.int .u64 0,.int .i64 2]) []else((0:Int)<=W (W (W (W (W (0+1)+1)+1)+1)+1)/\W (W (W (W (W (0+1)+1)+1)+1)+1)<(↑(1+1+1+1+1+1+1+1):Int))/\(0:Int)<=W (W (W (W (W (0+12)+9)+18)+9)+1)/\((0:Int)<=W (W (W (W (W (W (0+1)+1)+1)+1)+1)+1)/\W (W (W (W (W (W (0+1)+1)+1)+1)+1)+1)<(↑7:Int))/\bif ilt f 0 then K (.tup [.int .u64 0,.int .i64 2]) []else((0:Int)<=W (W (W (W (W (W (0+1)+1)+1)+1)+1)+1)/\W (W (W (W (W (W (0+1)+1)+1)+1)+1)+1)<(↑7:Int))/\(0:Int)<=(10:Int)/\bif ile (W (1*2^min (Int.toNat 10) (IntKind.bits .i64))) f then K (.tup [.int .u64 0,.int .i64 2]) []else((0:Int)<=W (W (W (W (W (W (0+1)+1)+1)+1)+1)+1)/\W (W (W (W (W (W (0+1)+1)+1)+1)+1)+1)<(↑(1+1+1+1+1+1+1+1):Int))/\(0:Int)<=W (W (W (W (W (W (0+12)+9)+18)+9)+1)+3)/\K (.tup [.int .u64 (WU (↑(BitVec.toNat (BitVec.ofInt (IntKind.bits .u64) (WU (↑(BitVec.toNat (BitVec.ofInt (IntKind.bits .u64) (WU (↑(BitVec.toNat (BitVec.ofInt (IntKind.bits .u64) (WU (↑(BitVec.toNat (BitVec.ofInt (IntKind.bits .u64) (WU (↑(BitVec.toNat (BitVec.ofInt (IntKind.bits .u64) (WU (↑(BitVec.toNat (BitVec.ofInt (IntKind.bits .u64) (WU (↑(BitVec.toNat (BitVec.ofInt (IntKind.bits .u64) 0|||BitVec.ofInt (IntKind.bits .u64) (WU (WU a*2^min (Int.toNat 0) (IntKind.bits .u64))))):Int))|||BitVec.ofInt (IntKind.bits .u64) (WU (WU b*2^min (Int.toNat (W (0+12))) (IntKind.bits .u64))))):Int))|||BitVec.ofInt (IntKind.bits .u64) (WU (WU c*2^min (Int.toNat (W (W (0+12)+9))) (IntKind.bits .u64))))):Int))|||BitVec.ofInt (IntKind.bits .u64) (WU (WU d*2^min (Int.toNat (W (W (W (0+12)+9)+18))) (IntKind.bits .u64))))):Int))|||BitVec.ofInt (IntKind.bits .u64) (WU (WU 0*2^min (Int.toNat (W (W (W (W (0+12)+9)+18)+9))) (IntKind.bits .u64))))):Int))|||BitVec.ofInt (IntKind.bits .u64) (WU (WU e*2^min (Int.toNat (W (W (W (W (W (0+12)+9)+18)+9)+1))) (IntKind.bits .u64))))):Int))|||BitVec.ofInt (IntKind.bits .u64) (WU (WU f*2^min (Int.toNat (W (W (W (W (W (W (0+12)+9)+18)+9)+1)+3))) (IntKind.bits .u64))))):Int)),.int .i64 0]) []) (by kernel_rfl) ?_)
 have no:dOk a b c d e f=false->K (.tup [.int .u64 0,.int .i64 2]) []:=by intro h;rw [h]at hK;exact hK
 have yes:dOk a b c d e f=true->K (.tup [.int .u64 (cP a b c d m e f),.int .i64 0]) []:=by intro h;rw [h]at hK;exact hK
 clear hK hp;have ae:W (1*2^min (Int.toNat 10) (IntKind.bits .i64))=1024:=by decide
 have ac:W (1*2^min (Int.toNat 12) (IntKind.bits .i64))=4096:=by decide
 have w9:W (1*2^min (Int.toNat 9) (IntKind.bits .i64))=512:=by decide
 have aa:W (1*2^min (Int.toNat 18) (IntKind.bits .i64))=262144:=by decide
 have w3:W (1*2^min (Int.toNat 3) (IntKind.bits .i64))=8:=by decide
 rw [ae,ac,w9,aa,w3]
 simp(disch:=omega) only [W,cG,Int.reduceAdd,Int.zero_add,Int.reduceToNat]
 cases m
 ·simp only [cond_true,cond_false]
  repeat' first
   | refine⟨by omega,?_⟩
   | refine KK (fun _=>?_) (fun _=>?_)
   | refine yX (fun _=>?_) (fun _=>?_)
  all_goals first
   | exact no (by cases h:dOk a b c d e f with
                  | false=>rfl
                  | true=>have:=rJ.1 h;omega)
   | skip
  have ok:dOk a b c d e f=true:=rJ.2 omz;refine cast (congrArg (fun z=>K (AVal.tup [.int .u64 z,.int .i64 0]) []) ?_) (yes ok);symm;have hb:IntKind.bits .u64 =64:=rfl;rw [hb];clear yes no ok;have q0:=hM (a:=0) (x:=0) (y:=a) (p:=1) (q:=2^min 0 64) (s:=a) dS omz omz omz omz dS;have q1:=hM (a:=12) (x:=a) (y:=b) (p:=4096) (q:=2^min 12 64) (s:=a+b*4096) dS omz omz omz omz dS;have q2:=hM (a:=21) (x:=a+b*4096) (y:=c) (p:=2097152) (q:=2^min 21 64) (s:=a+b*4096+c*2097152) dS omz omz omz omz dS;have q3:=hM (a:=39) (x:=a+b*4096+c*2097152) (y:=d) (p:=549755813888) (q:=2^min 39 64) (s:=a+b*4096+c*2097152+d*549755813888) dS omz omz omz omz dS;have q4:=hM (a:=48) (x:=a+b*4096+c*2097152+d*549755813888) (y:=0) (p:=281474976710656) (q:=2^min 48 64) (s:=a+b*4096+c*2097152+d*549755813888+0*281474976710656) dS omz omz omz omz dS;have q5:=hM (a:=49) (x:=a+b*4096+c*2097152+d*549755813888+0*281474976710656) (y:=e) (p:=562949953421312) (q:=2^min 49 64) (s:=a+b*4096+c*2097152+d*549755813888+0*281474976710656+e*562949953421312) dS omz omz omz omz dS
  have q6:=hM (a:=52) (x:=a+b*4096+c*2097152+d*549755813888+0*281474976710656+e*562949953421312) (y:=f) (p:=4503599627370496) (q:=2^min 52 64) (s:=a+b*4096+c*2097152+d*549755813888+0*281474976710656+e*562949953421312+f*4503599627370496) dS omz omz omz omz dS;simp only [WU]at q0 q1 q2 q3 q4 q5 q6⊢;rw [q0,q1,q2,q3,q4,q5,q6];unfold cP bitI;rfl
 ·simp only [cond_true,cond_false]
  repeat' first
   | refine⟨by omega,?_⟩
   | refine KK (fun _=>?_) (fun _=>?_)
   | refine yX (fun _=>?_) (fun _=>?_)
  all_goals first
   | exact no (by cases h:dOk a b c d e f with
                  | false=>rfl
                  | true=>have:=rJ.1 h;omega)
   | skip
  have ok:dOk a b c d e f=true:=rJ.2 omz;refine cast (congrArg (fun z=>K (AVal.tup [.int .u64 z,.int .i64 0]) []) ?_) (yes ok);symm;have hb:IntKind.bits .u64 =64:=rfl;rw [hb];clear yes no ok;have q0:=hM (a:=0) (x:=0) (y:=a) (p:=1) (q:=2^min 0 64) (s:=a) dS omz omz omz omz dS;have q1:=hM (a:=12) (x:=a) (y:=b) (p:=4096) (q:=2^min 12 64) (s:=a+b*4096) dS omz omz omz omz dS;have q2:=hM (a:=21) (x:=a+b*4096) (y:=c) (p:=2097152) (q:=2^min 21 64) (s:=a+b*4096+c*2097152) dS omz omz omz omz dS;have q3:=hM (a:=39) (x:=a+b*4096+c*2097152) (y:=d) (p:=549755813888) (q:=2^min 39 64) (s:=a+b*4096+c*2097152+d*549755813888) dS omz omz omz omz dS;have q4:=hM (a:=48) (x:=a+b*4096+c*2097152+d*549755813888) (y:=1) (p:=281474976710656) (q:=2^min 48 64) (s:=a+b*4096+c*2097152+d*549755813888+1*281474976710656) dS omz omz omz omz dS;have q5:=hM (a:=49) (x:=a+b*4096+c*2097152+d*549755813888+1*281474976710656) (y:=e) (p:=562949953421312) (q:=2^min 49 64) (s:=a+b*4096+c*2097152+d*549755813888+1*281474976710656+e*562949953421312) dS omz omz omz omz dS
  have q6:=hM (a:=52) (x:=a+b*4096+c*2097152+d*549755813888+1*281474976710656+e*562949953421312) (y:=f) (p:=4503599627370496) (q:=2^min 52 64) (s:=a+b*4096+c*2097152+d*549755813888+1*281474976710656+e*562949953421312+f*4503599627370496) dS omz omz omz omz dS;simp only [WU]at q0 q1 q2 q3 q4 q5 q6⊢;rw [q0,q1,q2,q3,q4,q5,q6];unfold cP bitI;rfl
noncomputable def E20:=(E16.addR 190 RK YN).addR 199 RL YO
def iL(a:Int):Int:=(a+1)%4096
def H2:aZ Ob:=fun args h=>match args,h with
 | [.agg [.int .i64 a,.int .i64 b,.int .i64 c,.int .i64 d,.bool m,.int .i64 e,.int .i64 f]],[]=>some (0<=a/\a<=1000000,.agg [.int .i64 (iL a),.int .i64 0,.int .i64 0,.int .i64 0,.bool false,.int .i64 1,.int .i64 0])
 | _,_=>none
theorem TU:aI.ok E20.I Tryz.prog 223 H2.spec:=by
 refine aZ.mk fun args h p v hv hp K hK=>?_;unfold H2 at hv;split at hv
 case h_2=>cases hv
 rename_i a b c d m e f;cases hv;have hK:K (.agg [.int .i64 (iL a),.int .i64 0,.int .i64 0,.int .i64 0,.bool false,.int .i64 1,.int .i64 0]) []:=hK;refine aLw (cM' (E:=E20) (q:=K (.agg [.int .i64 (W (↑(BitVec.toNat (BitVec.ofInt (IntKind.bits .i64) (W (a+1))&&&BitVec.ofInt (IntKind.bits .i64) 4095)):Int)),.int .i64 0,.int .i64 0,.int .i64 0,.bool false,.int .i64 1,.int .i64 0]) []) (by kernel_rfl) ?_)
 refine cast (congrArg (fun z=>K (.agg [.int .i64 z,.int .i64 0,.int .i64 0,.int .i64 0,.bool false,.int .i64 1,.int .i64 0]) []) ?_) hK;show iL a=_;have hb:IntKind.bits .i64 =64:=rfl;simp only [W];rw [hb,cG (x:=a+1) omz];have:=kS (n:=64) (w:=12) (a+1) omz;have e:(2:Int)^12 - 1=4095:=by decide
 rw [e]at this;rw [this];have e2:(2:Int)^12=4096:=by decide
 rw [e2,cG omz];rfl
def IA:aZ Ob:=fun args h=>match args,h with
 | [.agg [.int .i64 a,.int .i64 b,.int .i64 c,.int .i64 d,.bool m,.int .i64 e,.int .i64 f]],[]=>some (True,.bool (oN e))
 | _,_=>none
theorem UG:aI.ok E8.I Tryz.prog 192 IA.spec:=by
 refine aZ.mk fun args h p v hv hp K hK=>?_;unfold IA at hv;split at hv
 case h_2=>cases hv
 rename_i a b c d m e f;cases hv;have hK:K (.bool (oN e)) []:=hK;refine aLw (cM' (E:=E8) (q:=((0:Int)<=(0:Int)/\(0:Int)<(↑4:Int))/\bif ieq e 1 then K (.bool true) []else((0:Int)<=W (0+1)/\W (0+1)<(↑4:Int))/\bif ieq e 2 then K (.bool true) []else((0:Int)<=W (W (0+1)+1)/\W (W (0+1)+1)<(↑4:Int))/\bif ieq e 3 then K (.bool true) []else((0:Int)<=W (W (W (0+1)+1)+1)/\W (W (W (0+1)+1)+1)<(↑4:Int))/\bif ieq e 4 then K (.bool true) []else K (.bool false) []) (by kernel_rfl) ?_)
 have hb: ∀v:Bool,oN e=v->K (.bool v) []:=by intro v h;rw [<-h];exact hK
 have yes:1<=e/\e<=4->oN e=true:=by intro h;unfold oN;rw [cD,cD,decide_eq_true h.1,decide_eq_true h.2];rfl
 have no: ¬(1<=e/\e<=4)->oN e=false:=by
  intro h;unfold oN;rw [cD,cD]
  by_cases h1:1<=e
  ·rw [decide_eq_true h1,decide_eq_false omz];rfl
  ·rw [decide_eq_false h1];rfl
 simp(disch:=omega) only [W,cG,Int.reduceAdd,Int.zero_add]
 repeat' first
  | refine⟨by omega,?_⟩
  | refine JK (fun _=>?_) (fun _=>?_)
 all_goals first
  | exact hb _ (yes omz)
  | exact hb _ (no omz)
def UY:aZ Ob:=fun args h=>match args,h with
 | [.agg [.int .i64 a,.int .i64 b,.int .i64 c,.int .i64 d,.bool m,.int .i64 e,.int .i64 f]],[]=>some (True,.agg [.int .i64 (resC d e),.bool (aBp d e m),.int .i64 (aBq d e f)])
 | _,_=>none
theorem aBo:aI.ok E20.I Tryz.prog 224 UY.spec:=by
 refine aZ.mk fun args h p v hv hp K hK=>?_;unfold UY at hv;split at hv
 case h_2=>cases hv
 rename_i a b c d m e f;cases hv;have hK:K (.agg [.int .i64 (resC d e),.bool (aBp d e m),.int .i64 (aBq d e f)]) []:=hK;refine aLw (cM' (E:=E20) (q:=bif !ieq e 5 then K (.agg [.int .i64 5,.bool false,.int .i64 0]) []else bif ieq d 1 then K (.agg [.int .i64 4,.bool false,.int .i64 0]) []else K (.agg [.int .i64 0,.bool m,.int .i64 f]) []) (by kernel_rfl) ?_)
 unfold resC aBp aBq at hK;generalize ieq e 5=b1 at hK⊢;generalize ieq d 1=b2 at hK⊢;cases b1<;>cases b2<;>exact hK
def G3:aZ Ob:=fun args h=>match args,h with
 | [.agg [.int .i64 a,.int .i64 b,.int .i64 c,.int .i64 d,.bool m,.int .i64 e,.int .i64 f],.agg [.int .i64 g,.bool o,.int .i64 v]],[]=>some (True,.agg [.int .i64 a,.int .i64 0,.int .i64 0,.int .i64 (bif ieq g 4 then 1 else 0),.bool o,.int .i64 5,.int .i64 v])
 | _,_=>none
theorem SC:aI.ok E20.I Tryz.prog 200 G3.spec:=by
 refine aZ.mk fun args h p v hv hp K hK=>?_;unfold G3 at hv;split at hv
 case h_2=>cases hv
 rename_i a b c d m e f g o v;cases hv;have hK:K (.agg [.int .i64 a,.int .i64 0,.int .i64 0,.int .i64 (bif ieq g 4 then 1 else 0),.bool o,.int .i64 5,.int .i64 v]) []:=hK;refine aLw (cM' (E:=E20) (q:=bif ieq g 4 then K (.agg [.int .i64 a,.int .i64 0,.int .i64 0,.int .i64 1,.bool o,.int .i64 5,.int .i64 v]) []else K (.agg [.int .i64 a,.int .i64 0,.int .i64 0,.int .i64 0,.bool o,.int .i64 5,.int .i64 v]) []) (by kernel_rfl) ?_)
 generalize ieq g 4=b1 at hK⊢;cases b1<;>exact hK
noncomputable def E21a:=(((((E20.addR 223 H2 TU).addR 192 IA UG).addR 224 UY aBo).addR 200 G3 SC))
noncomputable def E21:=(E21a)
theorem nE{s k y:Int} :bT s k y=true↔(((s=1\/s=2)/\1<=k/\k<=3)\/((s=3\/s=4)/\(k=4\/k=5)))/\0<=y/\y<=999/\(k=5->y<=0):=by
 have hm:(bif ieq k 5 then(0:Int)else 999)=if k=5 then 0 else 999:=by
  rw [cI];by_cases h:k=5
  ·simp [h]
  ·have h':(k == 5)=false:=by simpa using h
   rw [h',if_neg h];rfl
 have hk:k∈fC s↔(((s=1\/s=2)/\1<=k/\k<=3)\/((s=3\/s=4)/\(k=4\/k=5))):=by
  unfold fC;rw [cI,cI,cI,cI]
  by_cases h1:s=1
  ·subst h1;simp;omega
  by_cases h2:s=2
  ·subst h2;simp;omega
  by_cases h3:s=3
  ·subst h3;simp
  by_cases h4:s=4
  ·subst h4;simp
  have g1:(s == 1)=false:=by simpa using h1
  have g2:(s == 2)=false:=by simpa using h2
  have g3:(s == 3)=false:=by simpa using h3
  have g4:(s == 4)=false:=by simpa using h4
  rw [g1,g2,g3,g4];simp [h1,h2,h3,h4]
 unfold bT;rw [Bool.and_eq_true,Bool.and_eq_true,kK,hk,cD,cD,dT',dT',hm]
 by_cases h5:k=5
 ·simp [h5];omega
 ·simp [h5]
def tskV(s k y:Int):Int:=s+8*k+64*y
def VS:aZ Ob:=fun args h=>match args,h with
 | [.agg [.int .i64 s,.int .i64 k,.int .i64 y]],[]=>some (True,.tup [.int .u64 (bif bT s k y then tskV s k y else 0),.int .i64 (bif bT s k y then 0 else 1)])
 | _,_=>none
theorem aBP:aI.ok E21.I Tryz.prog 269 VS.spec:=by
 refine aZ.mk fun args h p v hv hp K hK=>?_;unfold VS at hv;split at hv
 case h_2=>cases hv
 rename_i s k y;cases hv;have hK:K (.tup [.int .u64 (bif bT s k y then tskV s k y else 0),.int .i64 (bif bT s k y then 0 else 1)]) []:=hK;refine aLw (cM' (E:=E21) (q:=True/\bif !bT s k y then K (.tup [.int .u64 0,.int .i64 1]) []else(0:Int)<=(3:Int)/\(0:Int)<=(6:Int)/\K (.tup [.int .u64 (WU (W (↑(BitVec.toNat (BitVec.ofInt (IntKind.bits .i64) (W (↑(BitVec.toNat (BitVec.ofInt (IntKind.bits .i64) s|||BitVec.ofInt (IntKind.bits .i64) (W (k*2^min (Int.toNat 3) (IntKind.bits .i64))))):Int))|||BitVec.ofInt (IntKind.bits .i64) (W (y*2^min (Int.toNat 6) (IntKind.bits .i64))))):Int))),.int .i64 0]) []) (by kernel_rfl) ?_)
 refine⟨trivial,aK (fun e=>?_) (fun e=>⟨by omega,by omega,?_⟩)⟩
 ·rw [aFP e]at hK;exact hK
 ·have e:=aFO e;rw [e]at hK;have h:=nE.1 e;refine cast (congrArg (fun z=>K (.tup [.int .u64 z,.int .i64 0]) []) ?_) hK;show tskV s k y=_;have hb:IntKind.bits .i64 =64:=rfl;rw [hb];have p3:(2:Int)^min (Int.toNat 3) 64=2^3:=by decide
  have p6:(2:Int)^min (Int.toNat 6) 64=2^6:=by decide
  have v3:(2:Int)^3=8:=by decide
  have v6:(2:Int)^6=64:=by decide
  have v64:(2:Int)^64=18446744073709551616:=by decide
  rw [p3,p6];have q1:=w8 (n:=64) (a:=3) (x:=s) (y:=k) omz omz omz;have w1:W (k*2^3)=k*2^3:=zS omz;rw [w1,q1];have w2:W (s+k*2^3)=s+k*2^3:=zS omz;have w3:W (y*2^6)=y*2^6:=zS omz;have q2:=w8 (n:=64) (a:=6) (x:=s+k*2^3) (y:=y) omz omz omz;rw [w2,w3,q2];have w4:W (s+k*2^3+y*2^6)=s+k*2^3+y*2^6:=zS omz;have w5:WU (s+k*2^3+y*2^6)=s+k*2^3+y*2^6:=nT omz;rw [w4,w5,v3,v6];unfold tskV;omega
def aFI:aZ Ob:=fun args h=>match args,h with
 | [.int .i64 s,.agg [.int .i64 k,.int .i64 y]],[]=>some (True,.bool (bT s k y))
 | _,_=>none
theorem aFJ:aI.ok E21.I Tryz.prog 125 aFI.spec:=by
 refine aZ.mk fun args h p v hv hp K hK=>?_;unfold aFI at hv;split at hv
 case h_2=>cases hv
 rename_i s k y;cases hv;have hK:K (.bool (bT s k y)) []:=hK;refine aLw (cM' (E:=E21) (q:=bif ilt y 0 then K (.bool false) []else bif ilt 999 y then K (.bool false) []else bif ieq s 1 then bif ile 1 k then K (.bool (ile k 3)) []else K (.bool false) []else bif ieq s 2 then bif ile 1 k then K (.bool (ile k 3)) []else K (.bool false) []else bif ieq s 3 then bif ieq k 4 then K (.bool true) []else bif ieq k 5 then K (.bool (ieq y 0)) []else K (.bool false) []else bif ieq s 4 then bif ieq k 4 then K (.bool true) []else bif ieq k 5 then K (.bool (ieq y 0)) []else K (.bool false) []else K (.bool false) []) (by kernel_rfl) ?_)
 have hb: ∀v:Bool,bT s k y=v->K (.bool v) []:=by intro v h;rw [<-h];exact hK
 have yes:=(nE (s:=s) (k:=k) (y:=y)).2
 have no: ¬((((s=1\/s=2)/\1<=k/\k<=3)\/((s=3\/s=4)/\(k=4\/k=5)))/\0<=y/\y<=999/\(k=5->y<=0))->bT s k y=false:=by
  intro h;cases e:bT s k y with
  | false=>rfl
  | true=>exact(h (nE.1 e)).elim
 have aa: ∀a b:Int,K (.bool (ile a b)) []\/ ¬K (.bool (ile a b)) []:=fun _ _=>Classical.em _
 repeat' first
  | refine KK (fun _=>?_) (fun _=>?_)
  | refine yX (fun _=>?_) (fun _=>?_)
  | refine JK (fun _=>?_) (fun _=>?_)
 all_goals first
  | exact hb _ (no omz)
  | exact hb _ (yes omz)
  | (rw [cD];by_cases c:k<=3
     ·rw [decide_eq_true c];exact hb _ (yes omz)
     ·rw [decide_eq_false c];exact hb _ (no omz))
  | (rw [cI];by_cases c:y=0
     ·subst c;exact hb _ (yes omz)
     ·have c':(y == 0)=false:=by simpa using c
      rw [c'];exact hb _ (no omz))
noncomputable def E22a:=((E21.addR 269 VS aBP)).addR 125 aFI aFJ
def jS(x:Int):Bool:=ilt x 65536&&bT (aB x 0 3) (aB x 3 3) (aB x 6 10)
theorem AB{z:Int}(w:Nat)(hw:w<=61){c:Int}(hc:c=2^w - 1):IntKind.wrap .i64 (IntKind.wrap .u64 ((BitVec.ofInt 64 z&&&BitVec.ofInt 64 c).toNat :Int))=z%2^w:=by
 subst hc;rw [kS _ omz];have h4:=kF w;have h3:(2:Int)^w<=2305843009213693952:=BF (n:=61) hw dS;have h6:=Int.emod_nonneg z (b:=2^w) omz;have h7:=Int.emod_lt_of_pos z (b:=2^w) omz;rw [nT omz,cG omz]
def VN:aZ Ob:=fun args h=>match args,h with
 | [.int .u64 x],[]=>some (0<=x/\x<=18446744073709551615,.tup [.agg [.int .i64 (bif jS x then aB x 0 3 else 0),.int .i64 (bif jS x then aB x 3 3 else 0),.int .i64 (bif jS x then aB x 6 10 else 0)],.int .i64 (bif jS x then 0 else 3)])
 | _,_=>none
theorem aBK:aI.ok E22a.I Tryz.prog 245 VN.spec:=by
 refine aZ.mk fun args h p v hv hp K hK=>?_;unfold VN at hv;split at hv
 case h_2=>cases hv
 rename_i x;cases hv;have hK:K (.tup [.agg [.int .i64 (bif jS x then aB x 0 3 else 0),.int .i64 (bif jS x then aB x 3 3 else 0),.int .i64 (bif jS x then aB x 6 10 else 0)],.int .i64 (bif jS x then 0 else 3)]) []:=hK;refine aLw (cM' (E:=E22a) (q:=(0:Int)<=(3:Int)/\(0:Int)<=(6:Int)/\(0:Int)<=(16:Int)/\bif !ieq (Int.fdiv x (2^min (Int.toNat 16) (IntKind.bits .u64))) 0 then K (.tup [.agg [.int .i64 0,.int .i64 0,.int .i64 0],.int .i64 3]) []else True/\bif !bT (W (WU (↑(BitVec.toNat (BitVec.ofInt (IntKind.bits .u64) x&&&BitVec.ofInt (IntKind.bits .u64) 7)):Int))) (W (WU (↑(BitVec.toNat (BitVec.ofInt (IntKind.bits .u64) (Int.fdiv x (2^min (Int.toNat 3) (IntKind.bits .u64)))&&&BitVec.ofInt (IntKind.bits .u64) 7)):Int))) (W (WU (↑(BitVec.toNat (BitVec.ofInt (IntKind.bits .u64) (Int.fdiv x (2^min (Int.toNat 6) (IntKind.bits .u64)))&&&BitVec.ofInt (IntKind.bits .u64) 1023)):Int)))then K (.tup [.agg [.int .i64 0,.int .i64 0,.int .i64 0],.int .i64 3]) []else K (.tup [.agg [.int .i64 (W (WU (↑(BitVec.toNat (BitVec.ofInt (IntKind.bits .u64) x&&&BitVec.ofInt (IntKind.bits .u64) 7)):Int))),.int .i64 (W (WU (↑(BitVec.toNat (BitVec.ofInt (IntKind.bits .u64) (Int.fdiv x (2^min (Int.toNat 3) (IntKind.bits .u64)))&&&BitVec.ofInt (IntKind.bits .u64) 7)):Int))),.int .i64 (W (WU (↑(BitVec.toNat (BitVec.ofInt (IntKind.bits .u64) (Int.fdiv x (2^min (Int.toNat 6) (IntKind.bits .u64)))&&&BitVec.ofInt (IntKind.bits .u64) 1023)):Int)))],.int .i64 0]) []) (by kernel_rfl) ?_)
 have hb:IntKind.bits .u64 =64:=rfl;have p3:(2:Int)^min (Int.toNat 3) 64=8:=by decide
 have p6:(2:Int)^min (Int.toNat 6) 64=64:=by decide
 have p16:(2:Int)^min (Int.toNat 16) 64=65536:=by decide
 have c0:aB x 0 3=x%2^3:=by unfold aB;show x / 1%8=x%8;omega
 have c1:aB x 3 3=Int.fdiv x 8%2^3:=by rw [Int.fdiv_eq_ediv_of_nonneg _ omz];rfl
 have c2:aB x 6 10=Int.fdiv x 64%2^10:=by rw [Int.fdiv_eq_ediv_of_nonneg _ omz];rfl
 rw [hb,p3,p6,p16];simp only [W,WU];rw [AB (z:=x) 3 omz (c:=7) dS,AB (z:=Int.fdiv x 8) 3 omz (c:=7) dS,AB (z:=Int.fdiv x 64) 10 omz (c:=1023) dS,<-c0,<-c1,<-c2];unfold jS at hK
 have aa:ieq (Int.fdiv x 65536) 0=ilt x 65536:=by
  rw [Int.fdiv_eq_ediv_of_nonneg _ omz,cI,bC]
  by_cases h:x<65536
  ·rw [decide_eq_true h];simp;omega
  ·rw [decide_eq_false h];simp;omega
 rw [aa];generalize ilt x 65536=b1 at hK⊢;generalize bT (aB x 0 3) (aB x 3 3) (aB x 6 10)=b2 at hK⊢;refine⟨by omega,by omega,by omega,?_⟩
 cases b1<;>cases b2<;>first | exact hK | exact⟨trivial,hK⟩
noncomputable def E22b:=(E22a.addR 245 VN aBK)
def recNewS:aI Ob:=fun args h=>match args,h with
 | [.agg [.int .i64 t,.int .i64 n],.int .i64 me,.agg [.int .i64 s,.int .i64 k,.int .i64 y]],[]=>some (.ret (.ptr 0 0) [some (.cells [.int .i64 t,.int .i64 n,.int .u64 0,.int .i64 me,.int .i64 0,.int .u64 (bif bT s k y then tskV s k y else 0),.bool (!bT s k y),.int .u64 0])])
 | _,_=>none
theorem OX:aI.ok E22b.I Tryz.prog 220 recNewS:=by
 intro args h o ho K hK;unfold recNewS at ho;split at ho
 case h_2=>cases ho
 rename_i t n me s k y;cases ho;have hK:K (.ptr 0 0) [some (.cells [.int .i64 t,.int .i64 n,.int .u64 0,.int .i64 me,.int .i64 0,.int .u64 (bif bT s k y then tskV s k y else 0),.bool (!bT s k y),.int .u64 0])]:=hK;refine aLw (cM' (E:=E22b) (q:=True/\K (.ptr 0 0) [some (.cells [.int .i64 t,.int .i64 n,.int .u64 0,.int .i64 me,.int .i64 0,.int .u64 (bif bT s k y then tskV s k y else 0),.bool !ieq (bif bT s k y then 0 else 1) 0,.int .u64 0])]) (by kernel_rfl) ?_)
 generalize bT s k y=b at hK⊢;refine⟨trivial,?_⟩;cases b<;>exact hK
noncomputable def E22:=(E22b.addS 220 recNewS OX)
noncomputable def E23:=E22
noncomputable def E24:=(((((E23)))))
def guardNewS:aI Ob:=fun args h=>match args,h with
 | [.agg [.int .i64 t,.int .i64 n],.slice 0 0 k 1],[some (.ints (some .i64) xs)]=>some (.pre (k=xs.length/\k<=1000000) (.ret (.ptr 1 0) [some (.ints (some .i64) xs),some (.cells [.int .i64 t,.int .i64 n,.raw (.slice none 0 0),.raw (.slice none 0 0),.slice 2 0 xs.length 1,.map 3,.int .i64 0,.raw (.pointer none)]),some (.ints (some .i64) xs),some (.imap .i64 none [])]))
 | _,_=>none
theorem DP:aI.ok E24.I Tryz.prog 234 guardNewS:=by
 intro args h o ho K hK;unfold guardNewS at ho;split at ho
 case h_2=>cases ho
 rename_i t n k xs;cases ho;obtain⟨⟨rfl,hp⟩,hK⟩:=hK;refine aLw (cM' (E:=E24) (q:=((lE' xs/\xs.length<=(4294967296:Nat))/\True)/\K (.ptr 1 0) [some (.ints (some .i64) xs),some (.cells [.int .i64 t,.int .i64 n,.raw (Value.slice none 0 0),.raw (Value.slice none 0 0),.slice 2 0 xs.length 1,.map 3,.int .i64 0,.raw (Value.pointer none)]),some (.ints (some .i64) xs),some (.imap .i64 none [])]) (by kernel_rfl) ?_)
 exact⟨⟨⟨rfl,by omega⟩,trivial⟩,hK⟩
def backS:aI Ob:=fun args h=>match args,h with
 | [.agg [.int .i64 t,.int .i64 n],.slice 0 0 k 1],[some (.ints (some .i64) xs)]=>some (.pre (k=xs.length/\k<=1000000) (.ret (.ptr 1 0) [some (.ints (some .i64) xs),some (.cells [.int .i64 t,.int .i64 n,.slice 2 0 xs.length 1]),some (.ints (some .i64) xs)]))
 | _,_=>none
theorem X5:aI.ok E24.I Tryz.prog 295 backS:=by
 intro args h o ho K hK;unfold backS at ho;split at ho
 case h_2=>cases ho
 rename_i t n k xs;cases ho;obtain⟨⟨rfl,hp⟩,hK⟩:=hK;refine aLw (cM' (E:=E24) (q:=((lE' xs/\xs.length<=(4294967296:Nat))/\True)/\K (.ptr 1 0) [some (.ints (some .i64) xs),some (.cells [.int .i64 t,.int .i64 n,.slice 2 0 xs.length 1]),some (.ints (some .i64) xs)]) (by kernel_rfl) ?_)
 exact⟨⟨⟨rfl,by omega⟩,trivial⟩,hK⟩
noncomputable def E35a:=(E24.addS 234 guardNewS DP).addS 295 backS X5
def mhas(m:List (Int×Int))(n:Int):Bool:=!ieq (Option.getD (mget m n) 0) 0
def cF(m:List (Int×Int))(xs:List Int):List Int:=xs.filter (mhas m)
def aS(m:List (Int×Int))(xs:List Int):List Int:=xs.filter (fun n=>!mhas m n)
structure aIS (m:List (Int×Int)) (xs:List Int) (x:Nat×List Int×List Int):Prop where
 h1:x.1<=xs.length
 h2:x.2.1=cF m (xs.take x.1)
 h3:x.2.2=aS m (xs.take x.1)
def FO(t n at':Int)(m:List (Int×Int))(xs:List Int):Hint Ob:= {X:=Nat×List Int×List Int,st:=fun x=>([.ptr 0 0,.O,.O,.O,.O,.O,.O,.O,.slice 1 0 xs.length 1,.int .i64 (xs.length:Int),.int .i64 (x.1:Int)]++List.replicate 48 .O,[some (.cells [.int .i64 t,.int .i64 n,.slice 3 0 x.2.1.length 1,.slice 4 0 x.2.2.length 1,.slice 1 0 xs.length 1,.map 2,.int .i64 at',.raw (.pointer none)]),some (.ints (some .i64) xs),some (.imap .i64 none m),some (.ints (some .i64) x.2.1),some (.ints (some .i64) x.2.2)]),ok:=aIS m xs,mu:=fun x=>xs.length - x.1,keep:=[0,8,9,10],casts:=[(.cell 0 2,.ints (some .i64)),(.cell 0 3,.ints (some .i64))] }
def partsS:aI Ob:=fun args h=>match args,h with
 | [.ptr 0 0],[some (.cells [.int .i64 t,.int .i64 n,.raw (.slice none 0 0),.raw (.slice none 0 0),.slice 1 0 k 1,.map 2,.int .i64 at',.raw (.pointer none)]),some (.ints (some .i64) xs),some (.imap .i64 none m)]=>some (.pre (k=xs.length/\k<=1000000) (.ret (.bool (ieq ((aS m xs).length :Int) 0)) [some (.cells [.int .i64 t,.int .i64 n,.slice 3 0 (cF m xs).length 1,.slice 4 0 (aS m xs).length 1,.slice 1 0 xs.length 1,.map 2,.int .i64 at',.ptr 5 0]),some (.ints (some .i64) xs),some (.imap .i64 none m),some (.ints (some .i64) (cF m xs)),some (.ints (some .i64) (aS m xs)),some (.cells [.int .i64 t,.int .i64 n,.slice 6 0 (aS m xs).length 1]),some (.ints (some .i64) (aS m xs))]))
 | _,_=>none
theorem wJ(p:Int->Bool)(xs:List Int):(xs.filter p).length <=xs.length:=List.length_filter_le p xs
theorem UF:aI.ok E35a.I Tryz.prog 275 partsS:=by
 intro args h o ho K hK;unfold partsS at ho;split at ho
 case h_2=>cases ho
 rename_i t n k at' xs m;cases ho;obtain⟨⟨rfl,hp⟩,hK⟩:=hK;refine aLw (aD (E:=E35a) Tryz.checked.mixed (L:=fun _ _=>some (.states (FO t n at' m xs))) (n:=10) (aJ (q:=dE (FO t n at' m xs) (Hint.ok (FO t n at' m xs)) (.ptr 0 0::.O::.O::.O::.O::.O::.O::.O::.slice 1 0 xs.length 1::.int .i64 (↑xs.length:Int)::.int .i64 0::(tO' 48 [])) [some (.cells [.int .i64 t,.int .i64 n,.slice 3 0 0 1,.slice 4 0 0 1,.slice 1 0 xs.length 1,.map 2,.int .i64 at',.raw (Value.pointer none)]),some (.ints (some .i64) xs),some (.imap .i64 none m),some (.ints (some .i64) []),some (.ints (some .i64) [])]/\ ∀(x:(Nat×List Int×List Int)),aIS m xs x->bif ilt (↑x.1:Int) (↑xs.length:Int)then((0:Int)<=(↑x.1:Int)/\(↑x.1:Int)<(↑xs.length:Int))/\0+Int.toNat (↑x.1:Int)*(1:Nat)<xs.length/\bif !ieq (Option.getD (mget m (List.getD xs (0+Int.toNat (↑x.1:Int)*1) 0)) 0) 0 then(0=0/\lE' (Prod.snd x).1/\1=1/\List.length (Prod.snd x).1+(1:Nat)<=(4294967296:Nat))/\dE (FO t n at' m xs) (fun x'=>Hint.ok (FO t n at' m xs) x'/\Hint.mu (FO t n at' m xs) x'<Hint.mu (FO t n at' m xs) x) (.ptr 0 0::.O::.O::.O::.O::.O::.O::.O::.slice 1 0 xs.length 1::.int .i64 (↑xs.length:Int)::.int .i64 (W ((↑x.1:Int)+1))::(tO' 48 [])) [some (.cells [.int .i64 t,.int .i64 n,.slice 3 0 (List.length (Prod.snd x).1+1) 1,.slice 4 0 (List.length (Prod.snd x).2) 1,.slice 1 0 xs.length 1,.map 2,.int .i64 at',.raw (Value.pointer none)]),some (.ints (some .i64) xs),some (.imap .i64 none m),some (.ints (some .i64) ((Prod.snd x).1++ [List.getD xs (0+Int.toNat (↑x.1:Int)*1) 0])),some (.ints (some .i64) (Prod.snd x).2)]else(0=0/\lE' (Prod.snd x).2/\1=1/\List.length (Prod.snd x).2+(1:Nat)<=(4294967296:Nat))/\dE (FO t n at' m xs) (fun x'=>Hint.ok (FO t n at' m xs) x'/\Hint.mu (FO t n at' m xs) x'<Hint.mu (FO t n at' m xs) x) (.ptr 0 0::.O::.O::.O::.O::.O::.O::.O::.slice 1 0 xs.length 1::.int .i64 (↑xs.length:Int)::.int .i64 (W ((↑x.1:Int)+1))::(tO' 48 [])) [some (.cells [.int .i64 t,.int .i64 n,.slice 3 0 (List.length (Prod.snd x).1) 1,.slice 4 0 (List.length (Prod.snd x).2+1) 1,.slice 1 0 xs.length 1,.map 2,.int .i64 at',.raw (Value.pointer none)]),some (.ints (some .i64) xs),some (.imap .i64 none m),some (.ints (some .i64) (Prod.snd x).1),some (.ints (some .i64) ((Prod.snd x).2++ [List.getD xs (0+Int.toNat (↑x.1:Int)*1) 0]))]else((lE' (Prod.snd x).2/\List.length (Prod.snd x).2<=(1000000:Nat))/\True)/\K (.bool (ieq (↑(List.length (Prod.snd x).2):Int) 0)) [some (.cells [.int .i64 t,.int .i64 n,.slice 3 0 (List.length (Prod.snd x).1) 1,.slice 4 0 (List.length (Prod.snd x).2) 1,.slice 1 0 xs.length 1,.map 2,.int .i64 at',.ptr 5 0]),some (.ints (some .i64) xs),some (.imap .i64 none m),some (.ints (some .i64) (Prod.snd x).1),some (.ints (some .i64) (Prod.snd x).2),some (.cells [.int .i64 t,.int .i64 n,.slice 6 0 (List.length (Prod.snd x).2) 1]),some (.ints (some .i64) (Prod.snd x).2)]) (by kernel_rfl) ?_))
 refine⟨aR (H:=FO t n at' m xs) ((0:Nat),([]:List Int),([]:List Int)) rfl ⟨Nat.zero_le _,rfl,rfl⟩,?_⟩;rintro⟨i,ks,fs⟩ ⟨h1,h2,h3⟩;dsimp only at h1 h2 h3⊢;refine KK (fun hi=>?_) (fun hi=>?_)
 ·have aa:i<xs.length:=by omega
  have e2:0+(i:Int).toNat *1=i:=by omega
  have hg:xs.getD i 0=xs[i]:=by rw [gD',gE' aa];rfl
  have e4:W ((i:Int)+1)=((i+1:Nat):Int):=by rw [zS omz];rfl
  have hk:cF m (xs.take (i+1))=ks++(bif mhas m xs[i]then [xs[i]]else []):=by
   rw [h2];unfold cF;rw [List.take_succ_eq_append_getElem aa,List.filter_append];cases hm:mhas m xs[i]<;>simp [hm]
  have hf:aS m (xs.take (i+1))=fs++(bif mhas m xs[i]then []else [xs[i]]):=by
   rw [h3];unfold aS;rw [List.take_succ_eq_append_getElem aa,List.filter_append];cases hm:mhas m xs[i]<;>simp [hm]
  have ae:ks.length<=xs.length:=by rw [h2];exact Nat.le_trans (wJ _ _) (by simp;omega)
  have af:fs.length<=xs.length:=by rw [h3];exact Nat.le_trans (wJ _ _) (by simp;omega)
  have ac:xs.length - (i+1)<xs.length - i:=by omega
  rw [e2,e4,hg];have hd:(!ieq (Option.getD (mget m xs[i]) 0) 0)=mhas m xs[i]:=rfl;rw [hd];refine⟨by omega,by omega,aK (fun hm=>⟨⟨rfl,rfl,rfl,by omega⟩,?_⟩) (fun hm=>⟨⟨rfl,rfl,rfl,by omega⟩,?_⟩)⟩
  ·rw [hm]at hk hf;simp only [cond_true,List.append_nil]at hk hf;exact aR (H:=FO t n at' m xs) ((i+1:Nat),ks++ [xs[i]],fs) (by simp only [FO,List.length_append]<;>rfl) ⟨⟨aa,hk.symm,hf.symm⟩,ac⟩
  ·rw [hm]at hk hf;simp only [cond_false,List.append_nil]at hk hf;exact aR (H:=FO t n at' m xs) ((i+1:Nat),ks,fs++ [xs[i]]) (by simp only [FO,List.length_append]<;>rfl) ⟨⟨aa,hk.symm,hf.symm⟩,ac⟩
 ·rw [List.take_of_length_le omz]at h2 h3;subst h2 h3;have:=wJ (fun n=>!mhas m n) xs;refine⟨⟨⟨rfl,?_⟩,trivial⟩,hK⟩;show(aS m xs).length <=1000000;unfold aS;omega
noncomputable def E35:=E35a.addS 275 partsS UF
def swA(t n me sp:Int)(R:List Int)(s:MS):aC Ob:=[some (.cells [.ptr 1 0,.raw (.pointer none)]),some (.cells [.int .i64 t,.int .i64 n,.int .i64 me,.int .i64 sp,.slice 2 0 R.length 1]),some (.ints (some .i64) R),some (.cells [.int .i64 s.t,.int .i64 s.n,.slice 4 0 s.xs.length 1,.int .i64 s.c,.int .i64 s.k,.int .i64 s.a,.int .u64 s.o,.int .u64 s.w,.bool s.ok]),some (.ints (some .u64) s.xs)]
def aI1(t n me sp:Int)(R:List Int)(s:MS)(m:List (Int×Int))(i:Int):aC Ob:=[some (.cells [.ptr 1 0,.ptr 5 0]),some (.cells [.int .i64 t,.int .i64 n,.int .i64 me,.int .i64 sp,.slice 2 0 R.length 1]),some (.ints (some .i64) R),some (.cells [.int .i64 s.t,.int .i64 s.n,.slice 4 0 s.xs.length 1,.int .i64 s.c,.int .i64 s.k,.int .i64 s.a,.int .u64 s.o,.int .u64 s.w,.bool s.ok]),some (.ints (some .u64) s.xs),some (.cells [.int .i64 t,.int .i64 n,.raw (.slice none 0 0),.raw (.slice none 0 0),.slice 6 0 R.length 1,.map 7,.int .i64 i,.raw (.pointer none)]),some (.ints (some .i64) R),some (.imap .i64 none m)]
def swB(t n me sp:Int)(R N:List Int)(s:MS)(m:List (Int×Int))(i:Int):aC Ob:=[some (.cells [.ptr 1 0,.ptr 3 0]),some (.cells [.int .i64 t,.int .i64 n,.int .i64 me,.int .i64 sp,.slice 2 0 R.length 1]),some (.ints (some .i64) R),some (.cells [.int .i64 t,.int .i64 n,.raw (.slice none 0 0),.raw (.slice none 0 0),.slice 4 0 N.length 1,.map 5,.int .i64 i,.raw (.pointer none)]),some (.ints (some .i64) N),some (.imap .i64 none m),some (.cells [.int .i64 s.t,.int .i64 s.n,.slice 7 0 s.xs.length 1,.int .i64 s.c,.int .i64 s.k,.int .i64 s.a,.int .u64 s.o,.int .u64 s.w,.bool s.ok]),some (.ints (some .u64) s.xs)]
def aBC(t n me sp:Int)(st:AVal)(R N ks fs:List Int)(s:MS)(m:List (Int×Int))(i:Int):aC Ob:=[some (.cells [.ptr 1 0,.ptr 3 0]),some (.cells [.int .i64 t,.int .i64 n,.int .i64 me,.int .i64 sp,st]),some (.ints (some .i64) R),some (.cells [.int .i64 t,.int .i64 n,.slice 8 0 ks.length 1,.slice 9 0 fs.length 1,.slice 4 0 N.length 1,.map 5,.int .i64 i,.ptr 10 0]),some (.ints (some .i64) N),some (.imap .i64 none m),some (.cells [.int .i64 s.t,.int .i64 s.n,.slice 7 0 s.xs.length 1,.int .i64 s.c,.int .i64 s.k,.int .i64 s.a,.int .u64 s.o,.int .u64 s.w,.bool s.ok]),some (.ints (some .u64) s.xs),some (.ints (some .i64) ks),some (.ints (some .i64) fs),some (.cells [.int .i64 t,.int .i64 n,.slice 11 0 fs.length 1]),some (.ints (some .i64) fs)]
def swC(t n me sp:Int)(st:AVal)(R N ks fs gs:List Int)(s:MS)(m:List (Int×Int))(i:Int)(j l:Nat):aC Ob:=[some (.cells [.ptr 1 0,.ptr 3 0]),some (.cells [.int .i64 t,.int .i64 n,.int .i64 me,.int .i64 sp,st]),some (.ints (some .i64) R),some (.cells [.int .i64 t,.int .i64 n,.slice 4 0 ks.length 1,.slice 5 0 fs.length 1,.slice 6 0 N.length 1,.map 7,.int .i64 i,.ptr 8 0]),some (.ints (some .i64) ks),some (.ints (some .i64) fs),some (.ints (some .i64) N),some (.imap .i64 none m),some (.cells [.int .i64 t,.int .i64 n,.slice 9 j l 1]),some (.ints (some .i64) gs),some (.cells [.int .i64 s.t,.int .i64 s.n,.slice 11 0 s.xs.length 1,.int .i64 s.c,.int .i64 s.k,.int .i64 s.a,.int .u64 s.o,.int .u64 s.w,.bool s.ok]),some (.ints (some .u64) s.xs)]
def cQ(w:Nat)(h:aC Ob):Option (Nat×MS):=match h with
 | [some (.cells [.int .i64 t,.int .i64 n,.slice l 0 len 1,.int .i64 c,.int .i64 k,.int .i64 a,.int .u64 o,.int .u64 v,.bool ok]),some (.ints (some .u64) xs)]=>if l=w then some (len,⟨t,n,xs,c,k,a,o,v,ok⟩)else none
 | _=>none
theorem bB{w:Nat}{h:aC Ob}{l:Nat}{s:MS}(e:cQ w h=some (l,s))(hl:l=s.xs.length):h=[some (.cells [.int .i64 s.t,.int .i64 s.n,.slice w 0 s.xs.length 1,.int .i64 s.c,.int .i64 s.k,.int .i64 s.a,.int .u64 s.o,.int .u64 s.w,.bool s.ok]),some (.ints (some .u64) s.xs)]:=by
 unfold cQ at e;split at e
 ·split at e
  ·rename_i hw;cases e;subst hw;simp only at hl;subst hl;rfl
  ·cases e
 ·cases e
def bD(n i:Int):Int:=2*n+5+2*0+i
def aU(m:List (Int×Int))(n i:Int)(s:MS):List (Int×Int):=dX m (W (aE s.xs (bD n i))) 1
def bS(n:Int)(gs:List Int)(j:Nat):Int:=n+4+List.getD gs (j+Int.toNat 0*1) 0
noncomputable def swS1:aI Ob:=fun args h=>match args,h with
 | [.ptr 0 0,.ptr 3 0],[some (.cells [.ptr 1 0,.raw (.pointer none)]),some (.cells [.int .i64 t,.int .i64 n,.int .i64 me,.int .i64 sp,.slice 2 0 k 1]),some (.ints (some .i64) R),e1,e2]=>(match cQ 4 [e1,e2]with
   | some (l,s)=>some (.pre ((l=s.xs.length/\k=R.length)/\(1<=t/\t<=1000)/\(1<=n/\n<=1000)/\(0<=s.c/\s.c<=1000000)/\R.length<=1000000) (.ret (.bool false) (aI1 t n me sp R (s.loadd (bD n 0)) (aU [] n 0 s) 1)))
   | none=>none)
 | _,_=>none
noncomputable def swS2:aI Ob:=fun args h=>match args,h with
 | [.ptr 0 0,.ptr 6 0],[some (.cells [.ptr 1 0,.ptr 3 0]),some (.cells [.int .i64 t,.int .i64 n,.int .i64 me,.int .i64 sp,.slice 2 0 k 1]),some (.ints (some .i64) R),some (.cells [.int .i64 t',.int .i64 n',.raw (.slice none 0 0),.raw (.slice none 0 0),.slice 4 0 k' 1,.map 5,.int .i64 i,.raw (.pointer none)]),some (.ints (some .i64) N),some (.imap .i64 none m),e1,e2]=>(match cQ 7 [e1,e2]with
   | some (l,s)=>some (.pre ((l=s.xs.length/\k=R.length/\k'=N.length/\t'=t/\n'=n)/\(1<=t/\t<=1000)/\(1<=n/\n<=1000)/\(0<=s.c/\s.c<=1000000)/\N.length<=1000000/\(0<=i/\i<2*t)) (.ite (ieq (i+1) (2*t))
      (.ite (ieq ((aS (aU m n i s) N).length :Int) 0) (.ret (.bool true) (aBC t n me sp (.slice 8 0 (cF (aU m n i s) N).length 1) R N (cF (aU m n i s) N) (aS (aU m n i s) N) (s.loadd (bD n i)) (aU m n i s) (i+1)))
        (.ret (.bool false) (aBC t n me sp (.slice 2 0 R.length 1) R N (cF (aU m n i s) N) (aS (aU m n i s) N) (s.loadd (bD n i)) (aU m n i s) (i+1))))
      (.ret (.bool false) (swB t n me sp R N (s.loadd (bD n i)) (aU m n i s) (i+1)))))
   | none=>none)
 | _,_=>none
noncomputable def swS3:aI Ob:=fun args h=>match args,h with
 | [.ptr 0 0,.ptr 10 0],[some (.cells [.ptr 1 0,.ptr 3 0]),some (.cells [.int .i64 t,.int .i64 n,.int .i64 me,.int .i64 sp,.slice 2 0 k 1]),some (.ints (some .i64) R),some (.cells [.int .i64 t',.int .i64 n',.slice 4 0 k1 1,.slice 5 0 k2 1,.slice 6 0 k3 1,.map 7,.int .i64 i,.ptr 8 0]),some (.ints (some .i64) ks),some (.ints (some .i64) fs),some (.ints (some .i64) N),some (.imap .i64 none m),some (.cells [.int .i64 t'',.int .i64 n'',.slice 9 j l' 1]),some (.ints (some .i64) gs),e1,e2]=>(match cQ 11 [e1,e2]with
   | some (l,s)=>some (.pre ((l=s.xs.length/\k=R.length/\k1=ks.length/\k2=fs.length/\k3=N.length/\t'=t/\n'=n/\t''=t/\n''=n)/\(1<=t/\t<=1000)/\(1<=n/\n<=1000)/\(0<=s.c/\s.c<=1000000)/\2*t<=i/\(1<=l'/\gs.length=j+l')/\(-1000000<=List.getD gs (j+Int.toNat 0*1) 0/\List.getD gs (j+Int.toNat 0*1) 0<=1000000)) (.ite (ieq ((l' - 1:Nat):Int) 0)
      (.ret (.bool true) (swC t n me sp (.slice 4 0 ks.length 1) R N ks fs gs (s.added (bS n gs j) 1) m i (j+1) (l' - 1)))
      (.ret (.bool false) (swC t n me sp (.slice 2 0 R.length 1) R N ks fs gs (s.added (bS n gs j) 1) m i (j+1) (l' - 1)))))
   | none=>none)
 | _,_=>none
noncomputable def swStepS:aI Ob:=fun args h=>match swS1 args h with
 | some o=>some o
 | none=>match swS2 args h with
   | some o=>some o
   | none=>swS3 args h
theorem aGl(t n me sp:Int)(R:List Int)(s:MS)(K:AVal->aC Ob->Prop)(ht:1<=t/\t<=1000)(hn:1<=n/\n<=1000)(hc:0<=s.c/\s.c<=1000000)(hR:R.length<=1000000)(hK:K (.bool false) (aI1 t n me sp R (s.loadd (bD n 0)) (aU [] n 0 s) 1)):aA E35.I Tryz.prog 169 [.ptr 0 0,.ptr 3 0] (swA t n me sp R s) K:=by
 refine aLw (cM' (E:=E35) (q:=((lE' R/\R.length<=(1000000:Nat))/\True)/\((((0:Int)<=t/\t<=(100000:Int))/\(0:Int)<=n/\n<=(100000:Int))/\True)/\bif ile (2*t) 0 then False else((((0:Int)<=t/\t<=(100000:Int))/\((0:Int)<=n/\n<=(100000:Int))/\((-1099511627776:Int)<=(0:Int)/\(0:Int)<=(1099511627776:Int))/\(-1099511627776:Int)<=(0:Int)/\(0:Int)<=(1099511627776:Int))/\True)/\((q9' s)/\True)/\((((0:Int)<=t/\t<=(100000:Int))/\(0:Int)<=n/\n<=(100000:Int))/\True)/\bif ieq (W (0+1)) (2*t)then((lE' R/\R.length<=(1000000:Nat))/\True)/\bif !ieq (↑(List.length (aS (dX [] (W (aE s.3 (2*n+5+2*0+0))) 1) R)):Int) 0 then K (.bool false) [some (.cells [.ptr 1 0,.ptr 5 0]),some (.cells [.int .i64 t,.int .i64 n,.int .i64 me,.int .i64 sp,.slice 2 0 R.length 1]),some (.ints (some .i64) R),some (.cells [.int .i64 s.1,.int .i64 s.2,.slice 4 0 s.3.length 1,.int .i64 (s.4+1),.int .i64 1,.int .i64 (2*n+5+2*0+0),.int .u64 (aE s.3 (2*n+5+2*0+0)),.int .u64 (aE s.3 (2*n+5+2*0+0)),.bool (dU s.3 (2*n+5+2*0+0))]),some (.ints (some .u64) s.3),some (.cells [.int .i64 t,.int .i64 n,.slice 6 0 (List.length (cF (dX [] (W (aE s.3 (2*n+5+2*0+0))) 1) R)) 1,.slice 7 0 (List.length (aS (dX [] (W (aE s.3 (2*n+5+2*0+0))) 1) R)) 1,.slice 8 0 R.length 1,.map 9,.int .i64 (W (0+1)),.ptr 10 0]),some (.ints (some .i64) (cF (dX [] (W (aE s.3 (2*n+5+2*0+0))) 1) R)),some (.ints (some .i64) (aS (dX [] (W (aE s.3 (2*n+5+2*0+0))) 1) R)),some (.ints (some .i64) R),some (.imap .i64 none (dX [] (W (aE s.3 (2*n+5+2*0+0))) 1)),some (.cells [.int .i64 t,.int .i64 n,.slice 11 0 (List.length (aS (dX [] (W (aE s.3 (2*n+5+2*0+0))) 1) R)) 1]),some (.ints (some .i64) (aS (dX [] (W (aE s.3 (2*n+5+2*0+0))) 1) R))]else K (.bool true) [some (.cells [.ptr 1 0,.ptr 5 0]),some (.cells [.int .i64 t,.int .i64 n,.int .i64 me,.int .i64 sp,.slice 6 0 (List.length (cF (dX [] (W (aE s.3 (2*n+5+2*0+0))) 1) R)) 1]),some (.ints (some .i64) R),some (.cells [.int .i64 s.1,.int .i64 s.2,.slice 4 0 s.3.length 1,.int .i64 (s.4+1),.int .i64 1,.int .i64 (2*n+5+2*0+0),.int .u64 (aE s.3 (2*n+5+2*0+0)),.int .u64 (aE s.3 (2*n+5+2*0+0)),.bool (dU s.3 (2*n+5+2*0+0))]),some (.ints (some .u64) s.3),some (.cells [.int .i64 t,.int .i64 n,.slice 6 0 (List.length (cF (dX [] (W (aE s.3 (2*n+5+2*0+0))) 1) R)) 1,.slice 7 0 (List.length (aS (dX [] (W (aE s.3 (2*n+5+2*0+0))) 1) R)) 1,.slice 8 0 R.length 1,.map 9,.int .i64 (W (0+1)),.ptr 10 0]),some (.ints (some .i64) (cF (dX [] (W (aE s.3 (2*n+5+2*0+0))) 1) R)),some (.ints (some .i64) (aS (dX [] (W (aE s.3 (2*n+5+2*0+0))) 1) R)),some (.ints (some .i64) R),some (.imap .i64 none (dX [] (W (aE s.3 (2*n+5+2*0+0))) 1)),some (.cells [.int .i64 t,.int .i64 n,.slice 11 0 (List.length (aS (dX [] (W (aE s.3 (2*n+5+2*0+0))) 1) R)) 1]),some (.ints (some .i64) (aS (dX [] (W (aE s.3 (2*n+5+2*0+0))) 1) R))]else K (.bool false) [some (.cells [.ptr 1 0,.ptr 5 0]),some (.cells [.int .i64 t,.int .i64 n,.int .i64 me,.int .i64 sp,.slice 2 0 R.length 1]),some (.ints (some .i64) R),some (.cells [.int .i64 s.1,.int .i64 s.2,.slice 4 0 s.3.length 1,.int .i64 (s.4+1),.int .i64 1,.int .i64 (2*n+5+2*0+0),.int .u64 (aE s.3 (2*n+5+2*0+0)),.int .u64 (aE s.3 (2*n+5+2*0+0)),.bool (dU s.3 (2*n+5+2*0+0))]),some (.ints (some .u64) s.3),some (.cells [.int .i64 t,.int .i64 n,.raw (Value.slice none 0 0),.raw (Value.slice none 0 0),.slice 6 0 R.length 1,.map 7,.int .i64 (W (0+1)),.raw (Value.pointer none)]),some (.ints (some .i64) R),some (.imap .i64 none (dX [] (W (aE s.3 (2*n+5+2*0+0))) 1))]) (by kernel_rfl) ?_)
 refine⟨⟨⟨rfl,hR⟩,trivial⟩,⟨by omega,trivial⟩,yX (fun h=>by omega) (fun _=>⟨⟨by omega,trivial⟩,⟨⟨rfl,by omega⟩,trivial⟩,⟨by omega,trivial⟩,?_⟩)⟩
 have e:W (0+1)=1:=by decide
 rw [e];refine JK (fun h=>by omega) (fun _=>hK)
theorem aGm(t n me sp i:Int)(R N:List Int)(s:MS)(m:List (Int×Int))(K:AVal->aC Ob->Prop)(ht:1<=t/\t<=1000)(hn:1<=n/\n<=1000)(hc:0<=s.c/\s.c<=1000000)(hN:N.length<=1000000)(hi:0<=i/\i<2*t)
 (hK:cond (ieq (i+1) (2*t)) (cond (ieq ((aS (aU m n i s) N).length :Int) 0) (K (.bool true) (aBC t n me sp (.slice 8 0 (cF (aU m n i s) N).length 1) R N (cF (aU m n i s) N) (aS (aU m n i s) N) (s.loadd (bD n i)) (aU m n i s) (i+1))) (K (.bool false) (aBC t n me sp (.slice 2 0 R.length 1) R N (cF (aU m n i s) N) (aS (aU m n i s) N) (s.loadd (bD n i)) (aU m n i s) (i+1)))) (K (.bool false) (swB t n me sp R N (s.loadd (bD n i)) (aU m n i s) (i+1)))):aA E35.I Tryz.prog 169 [.ptr 0 0,.ptr 6 0] (swB t n me sp R N s m i) K:=by
 refine aLw (cM' (E:=E35) (q:=((((0:Int)<=t/\t<=(100000:Int))/\(0:Int)<=n/\n<=(100000:Int))/\True)/\bif ile (2*t) i then False else((((0:Int)<=t/\t<=(100000:Int))/\((0:Int)<=n/\n<=(100000:Int))/\((-1099511627776:Int)<=(0:Int)/\(0:Int)<=(1099511627776:Int))/\(-1099511627776:Int)<=i/\i<=(1099511627776:Int))/\True)/\((q9' s)/\True)/\((((0:Int)<=t/\t<=(100000:Int))/\(0:Int)<=n/\n<=(100000:Int))/\True)/\bif ieq (W (i+1)) (2*t)then((lE' N/\N.length<=(1000000:Nat))/\True)/\bif !ieq (↑(List.length (aS (dX m (W (aE s.3 (2*n+5+2*0+i))) 1) N)):Int) 0 then K (.bool false) [some (.cells [.ptr 1 0,.ptr 3 0]),some (.cells [.int .i64 t,.int .i64 n,.int .i64 me,.int .i64 sp,.slice 2 0 R.length 1]),some (.ints (some .i64) R),some (.cells [.int .i64 t,.int .i64 n,.slice 8 0 (List.length (cF (dX m (W (aE s.3 (2*n+5+2*0+i))) 1) N)) 1,.slice 9 0 (List.length (aS (dX m (W (aE s.3 (2*n+5+2*0+i))) 1) N)) 1,.slice 4 0 N.length 1,.map 5,.int .i64 (W (i+1)),.ptr 10 0]),some (.ints (some .i64) N),some (.imap .i64 none (dX m (W (aE s.3 (2*n+5+2*0+i))) 1)),some (.cells [.int .i64 s.1,.int .i64 s.2,.slice 7 0 s.3.length 1,.int .i64 (s.4+1),.int .i64 1,.int .i64 (2*n+5+2*0+i),.int .u64 (aE s.3 (2*n+5+2*0+i)),.int .u64 (aE s.3 (2*n+5+2*0+i)),.bool (dU s.3 (2*n+5+2*0+i))]),some (.ints (some .u64) s.3),some (.ints (some .i64) (cF (dX m (W (aE s.3 (2*n+5+2*0+i))) 1) N)),some (.ints (some .i64) (aS (dX m (W (aE s.3 (2*n+5+2*0+i))) 1) N)),some (.cells [.int .i64 t,.int .i64 n,.slice 11 0 (List.length (aS (dX m (W (aE s.3 (2*n+5+2*0+i))) 1) N)) 1]),some (.ints (some .i64) (aS (dX m (W (aE s.3 (2*n+5+2*0+i))) 1) N))]else K (.bool true) [some (.cells [.ptr 1 0,.ptr 3 0]),some (.cells [.int .i64 t,.int .i64 n,.int .i64 me,.int .i64 sp,.slice 8 0 (List.length (cF (dX m (W (aE s.3 (2*n+5+2*0+i))) 1) N)) 1]),some (.ints (some .i64) R),some (.cells [.int .i64 t,.int .i64 n,.slice 8 0 (List.length (cF (dX m (W (aE s.3 (2*n+5+2*0+i))) 1) N)) 1,.slice 9 0 (List.length (aS (dX m (W (aE s.3 (2*n+5+2*0+i))) 1) N)) 1,.slice 4 0 N.length 1,.map 5,.int .i64 (W (i+1)),.ptr 10 0]),some (.ints (some .i64) N),some (.imap .i64 none (dX m (W (aE s.3 (2*n+5+2*0+i))) 1)),some (.cells [.int .i64 s.1,.int .i64 s.2,.slice 7 0 s.3.length 1,.int .i64 (s.4+1),.int .i64 1,.int .i64 (2*n+5+2*0+i),.int .u64 (aE s.3 (2*n+5+2*0+i)),.int .u64 (aE s.3 (2*n+5+2*0+i)),.bool (dU s.3 (2*n+5+2*0+i))]),some (.ints (some .u64) s.3),some (.ints (some .i64) (cF (dX m (W (aE s.3 (2*n+5+2*0+i))) 1) N)),some (.ints (some .i64) (aS (dX m (W (aE s.3 (2*n+5+2*0+i))) 1) N)),some (.cells [.int .i64 t,.int .i64 n,.slice 11 0 (List.length (aS (dX m (W (aE s.3 (2*n+5+2*0+i))) 1) N)) 1]),some (.ints (some .i64) (aS (dX m (W (aE s.3 (2*n+5+2*0+i))) 1) N))]else K (.bool false) [some (.cells [.ptr 1 0,.ptr 3 0]),some (.cells [.int .i64 t,.int .i64 n,.int .i64 me,.int .i64 sp,.slice 2 0 R.length 1]),some (.ints (some .i64) R),some (.cells [.int .i64 t,.int .i64 n,.raw (Value.slice none 0 0),.raw (Value.slice none 0 0),.slice 4 0 N.length 1,.map 5,.int .i64 (W (i+1)),.raw (Value.pointer none)]),some (.ints (some .i64) N),some (.imap .i64 none (dX m (W (aE s.3 (2*n+5+2*0+i))) 1)),some (.cells [.int .i64 s.1,.int .i64 s.2,.slice 7 0 s.3.length 1,.int .i64 (s.4+1),.int .i64 1,.int .i64 (2*n+5+2*0+i),.int .u64 (aE s.3 (2*n+5+2*0+i)),.int .u64 (aE s.3 (2*n+5+2*0+i)),.bool (dU s.3 (2*n+5+2*0+i))]),some (.ints (some .u64) s.3)]) (by kernel_rfl) ?_)
 have e:W (i+1)=i+1:=zS omz;rw [e];refine⟨⟨by omega,trivial⟩,yX (fun h=>by omega) (fun _=>⟨⟨by omega,trivial⟩,⟨⟨rfl,by omega⟩,trivial⟩,⟨by omega,trivial⟩,?_⟩)⟩
 cases h1:ieq (i+1) (2*t)with
 | false=>rw [h1]at hK;exact hK
 | true=>
   rw [h1]at hK;refine⟨⟨⟨rfl,hN⟩,trivial⟩,?_⟩;cases h2:ieq ((aS (aU m n i s) N).length :Int) 0 with
   | false=>rw [h2]at hK;unfold aU bD at h2;rw [h2];exact hK
   | true=>rw [h2]at hK;unfold aU bD at h2;rw [h2];exact hK
theorem aGn(t n me sp i:Int)(R N ks fs gs:List Int)(s:MS)(m:List (Int×Int))(j l:Nat)(K:AVal->aC Ob->Prop)(ht:1<=t/\t<=1000)(hn:1<=n/\n<=1000)(hc:0<=s.c/\s.c<=1000000)(hi:2*t<=i)(hl:1<=l/\gs.length=j+l)(hg: -1000000<=List.getD gs (j+Int.toNat 0*1) 0/\List.getD gs (j+Int.toNat 0*1) 0<=1000000)
 (hK:cond (ieq ((l - 1:Nat):Int) 0) (K (.bool true) (swC t n me sp (.slice 4 0 ks.length 1) R N ks fs gs (s.added (bS n gs j) 1) m i (j+1) (l - 1))) (K (.bool false) (swC t n me sp (.slice 2 0 R.length 1) R N ks fs gs (s.added (bS n gs j) 1) m i (j+1) (l - 1)))):aA E35.I Tryz.prog 169 [.ptr 0 0,.ptr 10 0] (swC t n me sp (.slice 2 0 R.length 1) R N ks fs gs s m i j l) K:=by
 refine aLw (cM' (E:=E35) (q:=((((0:Int)<=t/\t<=(100000:Int))/\(0:Int)<=n/\n<=(100000:Int))/\True)/\bif ile (2*t) i then bif ieq (↑l:Int) 0 then(q9' s)/\K (.bool true) [some (.cells [.ptr 1 0,.ptr 3 0]),some (.cells [.int .i64 t,.int .i64 n,.int .i64 me,.int .i64 sp,.slice 4 0 ks.length 1]),some (.ints (some .i64) R),some (.cells [.int .i64 t,.int .i64 n,.slice 4 0 ks.length 1,.slice 5 0 fs.length 1,.slice 6 0 N.length 1,.map 7,.int .i64 i,.ptr 8 0]),some (.ints (some .i64) ks),some (.ints (some .i64) fs),some (.ints (some .i64) N),some (.imap .i64 none m),some (.cells [.int .i64 t,.int .i64 n,.slice 9 j l 1]),some (.ints (some .i64) gs),some (.cells [.int .i64 s.1,.int .i64 s.2,.slice 11 0 s.3.length 1,.int .i64 (s.4+1),.int .i64 1,.int .i64 0,.int .u64 (aE s.3 0),.int .u64 (aE s.3 0),.bool (dU s.3 0)]),some (.ints (some .u64) s.3)]else((0:Int)<=(0:Int)/\(0:Int)<(↑l:Int))/\j+Int.toNat 0*(1:Nat)<gs.length/\((((0:Int)<=t/\t<=(100000:Int))/\((0:Int)<=n/\n<=(100000:Int))/\(-1099511627776:Int)<=List.getD gs (j+Int.toNat 0*1) 0/\List.getD gs (j+Int.toNat 0*1) (0:Int)<=(1099511627776:Int))/\True)/\((q9' s)/\True)/\((0:Int)<=(1:Int)/\Int.toNat (1:Int)<=l)/\bif !ieq (↑(l - Int.toNat 1):Int) 0 then K (.bool false) [some (.cells [.ptr 1 0,.ptr 3 0]),some (.cells [.int .i64 t,.int .i64 n,.int .i64 me,.int .i64 sp,.slice 2 0 R.length 1]),some (.ints (some .i64) R),some (.cells [.int .i64 t,.int .i64 n,.slice 4 0 ks.length 1,.slice 5 0 fs.length 1,.slice 6 0 N.length 1,.map 7,.int .i64 i,.ptr 8 0]),some (.ints (some .i64) ks),some (.ints (some .i64) fs),some (.ints (some .i64) N),some (.imap .i64 none m),some (.cells [.int .i64 t,.int .i64 n,.slice 9 (j+Int.toNat 1*1) (l - Int.toNat 1) 1]),some (.ints (some .i64) gs),some (.cells [.int .i64 s.1,.int .i64 s.2,.slice 11 0 (List.length (aX s.3 (n+4+List.getD gs (j+Int.toNat 0*1) 0) (WU (aE s.3 (n+4+List.getD gs (j+Int.toNat 0*1) 0)+1)))) 1,.int .i64 (s.4+1),.int .i64 4,.int .i64 (n+4+List.getD gs (j+Int.toNat 0*1) 0),.int .u64 (aE s.3 (n+4+List.getD gs (j+Int.toNat 0*1) 0)),.int .u64 (bif dU s.3 (n+4+List.getD gs (j+Int.toNat 0*1) 0)then WU (aE s.3 (n+4+List.getD gs (j+Int.toNat 0*1) 0)+1)else 0),.bool (dU s.3 (n+4+List.getD gs (j+Int.toNat 0*1) 0))]),some (.ints (some .u64) (aX s.3 (n+4+List.getD gs (j+Int.toNat 0*1) 0) (WU (aE s.3 (n+4+List.getD gs (j+Int.toNat 0*1) 0)+1))))]else K (.bool true) [some (.cells [.ptr 1 0,.ptr 3 0]),some (.cells [.int .i64 t,.int .i64 n,.int .i64 me,.int .i64 sp,.slice 4 0 ks.length 1]),some (.ints (some .i64) R),some (.cells [.int .i64 t,.int .i64 n,.slice 4 0 ks.length 1,.slice 5 0 fs.length 1,.slice 6 0 N.length 1,.map 7,.int .i64 i,.ptr 8 0]),some (.ints (some .i64) ks),some (.ints (some .i64) fs),some (.ints (some .i64) N),some (.imap .i64 none m),some (.cells [.int .i64 t,.int .i64 n,.slice 9 (j+Int.toNat 1*1) (l - Int.toNat 1) 1]),some (.ints (some .i64) gs),some (.cells [.int .i64 s.1,.int .i64 s.2,.slice 11 0 (List.length (aX s.3 (n+4+List.getD gs (j+Int.toNat 0*1) 0) (WU (aE s.3 (n+4+List.getD gs (j+Int.toNat 0*1) 0)+1)))) 1,.int .i64 (s.4+1),.int .i64 4,.int .i64 (n+4+List.getD gs (j+Int.toNat 0*1) 0),.int .u64 (aE s.3 (n+4+List.getD gs (j+Int.toNat 0*1) 0)),.int .u64 (bif dU s.3 (n+4+List.getD gs (j+Int.toNat 0*1) 0)then WU (aE s.3 (n+4+List.getD gs (j+Int.toNat 0*1) 0)+1)else 0),.bool (dU s.3 (n+4+List.getD gs (j+Int.toNat 0*1) 0))]),some (.ints (some .u64) (aX s.3 (n+4+List.getD gs (j+Int.toNat 0*1) 0) (WU (aE s.3 (n+4+List.getD gs (j+Int.toNat 0*1) 0)+1))))]else((((0:Int)<=t/\t<=(100000:Int))/\((0:Int)<=n/\n<=(100000:Int))/\((-1099511627776:Int)<=(0:Int)/\(0:Int)<=(1099511627776:Int))/\(-1099511627776:Int)<=i/\i<=(1099511627776:Int))/\True)/\((q9' s)/\True)/\((((0:Int)<=t/\t<=(100000:Int))/\(0:Int)<=n/\n<=(100000:Int))/\True)/\bif ieq (W (i+1)) (2*t)then False else K (.bool false) [some (.cells [.ptr 1 0,.ptr 3 0]),some (.cells [.int .i64 t,.int .i64 n,.int .i64 me,.int .i64 sp,.slice 2 0 R.length 1]),some (.ints (some .i64) R),some (.cells [.int .i64 t,.int .i64 n,.slice 4 0 ks.length 1,.slice 5 0 fs.length 1,.slice 6 0 N.length 1,.map 7,.int .i64 (W (i+1)),.ptr 8 0]),some (.ints (some .i64) ks),some (.ints (some .i64) fs),some (.ints (some .i64) N),some (.imap .i64 none (dX m (W (aE s.3 (2*n+5+2*0+i))) 1)),some (.cells [.int .i64 t,.int .i64 n,.slice 9 j l 1]),some (.ints (some .i64) gs),some (.cells [.int .i64 s.1,.int .i64 s.2,.slice 11 0 s.3.length 1,.int .i64 (s.4+1),.int .i64 1,.int .i64 (2*n+5+2*0+i),.int .u64 (aE s.3 (2*n+5+2*0+i)),.int .u64 (aE s.3 (2*n+5+2*0+i)),.bool (dU s.3 (2*n+5+2*0+i))]),some (.ints (some .u64) s.3)]) (by kernel_rfl) ?_)
 refine⟨⟨by omega,trivial⟩,yX (fun h=>JK (fun h0=>by omega) (fun _=>⟨by omega,by omega,⟨by omega,trivial⟩,⟨⟨rfl,by omega⟩,trivial⟩,by omega,?_⟩)) (fun h=>by omega)⟩
 have e:l - Int.toNat 1=l - 1:=rfl;rw [e];cases h1:ieq ((l - 1:Nat):Int) 0 with
 | false=>rw [h1]at hK;exact hK
 | true=>rw [h1]at hK;exact hK
theorem aBE:aI.ok E35.I Tryz.prog 169 swS1:=by
 intro args h o ho K hK;unfold swS1 at ho;split at ho
 case h_2=>cases ho
 split at ho
 case h_2=>cases ho
 rename_i hm;cases ho;obtain⟨⟨⟨hl,hk⟩,ht,hn,hc,hR⟩,hK⟩:=hK;have hh:=bB hm hl;cases hh;subst hk;exact aGl _ _ _ _ _ _ K ht hn hc hR hK
theorem aBF:aI.ok E35.I Tryz.prog 169 swS2:=by
 intro args h o ho K hK;unfold swS2 at ho;split at ho
 case h_2=>cases ho
 split at ho
 case h_2=>cases ho
 rename_i hm;cases ho;obtain⟨⟨⟨hl,hk,aa,h1,h2⟩,ht,hn,hc,hN,hi⟩,hK⟩:=hK;have hh:=bB hm hl;cases hh;subst hk aa h1 h2;exact aGm _ _ _ _ _ _ _ _ _ K ht hn hc hN hi hK
theorem aBG:aI.ok E35.I Tryz.prog 169 swS3:=by
 intro args h o ho K hK;unfold swS3 at ho;split at ho
 case h_2=>cases ho
 split at ho
 case h_2=>cases ho
 rename_i hm;cases ho;obtain⟨⟨⟨hl,hk,af,ae,ac,h1,h2,h3,h4⟩,ht,hn,hc,hi,aa,hg⟩,hK⟩:=hK;have hh:=bB hm hl;cases hh;subst hk af ae ac h1 h2 h3 h4;exact aGn _ _ _ _ _ _ _ _ _ _ _ _ _ _ K ht hn hc hi aa hg hK
theorem pK:aI.ok E35.I Tryz.prog 169 swStepS:=by
 intro args h o ho;unfold swStepS at ho;split at ho
 ·rename_i e;cases ho;exact aBE _ _ _ e
 ·split at ho
  ·rename_i e;cases ho;exact aBF _ _ _ e
  ·exact aBG _ _ _ ho
noncomputable def E36:=E35.addS 169 swStepS pK
end Go.Sh
