import Derived.Test.YtedeloeobocpiaaGreatRows
import Derived.IntWalk
import Derived.Test.YtedeloeobocpiaaGreatZSh19toSh36
set_option linter.all false
set_option maxHeartbeats 8000000
namespace Go.Sh
open Go Go.Proofs
variable [Con]
abbrev lE'{α:Type}(a:List α):Prop:=a.length=List.length a
abbrev cK9:List Code1:=[some .i64,some .i64,some .i64,some .i64,some .i64,some .i64,some .i64,none,some .i64]
abbrev cK7:List Code1:=[some .i64,none,some .i64,some .i64,some .i64,none,some .i64]
abbrev cK3:List Code1:=[some .i64,some .i64,some .i64]
abbrev tO'(n:Nat)(l:List AVal):List AVal:=List.replicate n .O++l
abbrev AVal.I(n:Int):AVal:=.int .i64 n
abbrev AVal.N:AVal:=.raw (.pointer none)
abbrev W(x:Int):Int:=IntKind.wrap IntKind.i64 x
abbrev WU(x:Int):Int:=IntKind.wrap IntKind.u64 x
theorem cJ{x:Int}(h: -9223372036854775808≤x∧x≤9223372036854775807):IntKind.wrap IntKind.i64 x=x:=IntWalk.i64_in x h
structure MS where
 t:Int
 n:Int
 xs:List Int
 c:Int
 k:Int
 a:Int
 o:Int
 w:Int
 ok:Bool
structure AL where
 got:Int
 at':Int
 left:Int
 found:Int
 free:Bool
structure SWS where
 ph:Nat
 N:List Int
 m:List (Int×Int)
 i:Int
 ks:List Int
 fs:List Int
 gs:List Int
 j:Nat
 l:Nat
structure ENS where
 ph:Nat
 sh:Bool
 dn:Bool
 x:AL
 y:SWS
structure STS where
 me:Int
 sp:Int
 R:List Int
structure PLN where
 now:Bool
 code:Int
 okk:Bool
 val:Int
 addr:Int
 old:Int
 nxt:Int
 mark:Bool
 pops:Int
structure CLS where
 addr:Int
 at':Int
 word:Int
 found:Int
structure PRS where
 key:Int
 nxt:Int
 found:Int
 loaded:Bool
structure HDS where
 u:Int
 no:Int
 at':Int
 tk:Bool
structure DRS where
 th:Int
 at':Int
structure ANS where
 no:Int
 me:Int
 at':Int
 bits:Int
 wrong:Bool
 found:Int
structure AWS where
 code:Int
 okk:Bool
 val:Int
 me:Int
structure EXS where
 popped:Int
 gave:Int
 u:Int
 sh:Int
 kd:Int
 ky:Int
 only:Bool
 att:Int
 at':Int
 found:Int
 word:Int
structure FNS where
 pred:Int
 pw:Int
 curr:Int
 cw:Int
 tries:Int
 ul:List Int
 ab:Bool
 me:Int
 frm:Int
 key:Int
 limit:Int
 at':Int
 moved:Int
 cl:CLS
structure FTS where
 code:Int
 okk:Bool
 val:Int
 failed:Bool
 tries:Int
 sh:Int
 kd:Int
 ky:Int
 most:Int
 at':Int
 p:PLN
 fn:FNS
 cl:CLS
 pr:PRS
structure HPS where
 u:Int
 no:Int
 rounds:Int
 limit:Int
 at':Int
 found:Int
 sh:Int
 kd:Int
 ky:Int
 p:PLN
 ex:EXS
 en:ENS
 fn:FNS
 cl:CLS
 pr:PRS
structure DOS where
 code:Int
 okk:Bool
 val:Int
 slow:Bool
 sh:Int
 kd:Int
 ky:Int
 limit:Int
 at':Int
 hd:HDS
 hp:HPS
 en:ENS
 ft:FTS
 an:ANS
 aw:AWS
 fn:FNS
 dr:DRS
 sw:SWS
instance:Inhabited PLN:=⟨⟨false,0,false,0,0,0,0,false,0⟩⟩
abbrev eZ:DRS:=⟨0,0⟩
abbrev eA:HDS:=⟨0,0,0,false⟩
abbrev d9:AWS:=⟨0,false,0,0⟩
abbrev bD:CLS:=⟨0,0,0,0⟩
abbrev cV:PRS:=⟨0,0,0,false⟩
abbrev bN:SWS:=⟨0,[],[],0,[],[],[],0,0⟩
abbrev aDq:PLN:=⟨false,0,false,0,0,0,0,false,0⟩
abbrev d8:ANS:=⟨0,0,0,0,false,0⟩
abbrev aU:ENS:=⟨0,false,false,⟨0,0,0,0,false⟩,⟨0,[],[],0,[],[],[],0,0⟩⟩
abbrev cS:EXS:=⟨0,0,0,0,0,0,false,0,0,0,0⟩
abbrev aP:FNS:=⟨0,0,0,0,0,[],false,0,0,0,0,0,0,⟨0,0,0,0⟩⟩
abbrev bR:FTS:=⟨0,false,0,false,0,0,0,0,0,0,⟨false,0,false,0,0,0,0,false,0⟩,⟨0,0,0,0,0,[],false,0,0,0,0,0,0,⟨0,0,0,0⟩⟩,⟨0,0,0,0⟩,⟨0,0,0,false⟩⟩
abbrev bU:HPS:=⟨0,0,0,0,0,0,0,0,0,⟨false,0,false,0,0,0,0,false,0⟩,⟨0,0,0,0,0,0,false,0,0,0,0⟩,⟨0,false,false,⟨0,0,0,0,false⟩,⟨0,[],[],0,[],[],[],0,0⟩⟩,⟨0,0,0,0,0,[],false,0,0,0,0,0,0,⟨0,0,0,0⟩⟩,⟨0,0,0,0⟩,⟨0,0,0,false⟩⟩
abbrev aDp:DOS:=⟨0,false,0,false,0,0,0,0,0,⟨0,0,0,false⟩,⟨0,0,0,0,0,0,0,0,0,⟨false,0,false,0,0,0,0,false,0⟩,⟨0,0,0,0,0,0,false,0,0,0,0⟩,⟨0,false,false,⟨0,0,0,0,false⟩,⟨0,[],[],0,[],[],[],0,0⟩⟩,⟨0,0,0,0,0,[],false,0,0,0,0,0,0,⟨0,0,0,0⟩⟩,⟨0,0,0,0⟩,⟨0,0,0,false⟩⟩,⟨0,false,false,⟨0,0,0,0,false⟩,⟨0,[],[],0,[],[],[],0,0⟩⟩,⟨0,false,0,false,0,0,0,0,0,0,⟨false,0,false,0,0,0,0,false,0⟩,⟨0,0,0,0,0,[],false,0,0,0,0,0,0,⟨0,0,0,0⟩⟩,⟨0,0,0,0⟩,⟨0,0,0,false⟩⟩,⟨0,0,0,0,false,0⟩,⟨0,false,0,0⟩,⟨0,0,0,0,0,[],false,0,0,0,0,0,0,⟨0,0,0,0⟩⟩,⟨0,0⟩,⟨0,[],[],0,[],[],[],0,0⟩⟩
inductive Mc where
 | sweep (t n:Int) (y:SWS)
 | ensure (t n:Int) (e:ENS)
 | store (t n:Int) (s:STS)
 | clear (t n:Int) (x:CLS)
 | prepare (t n:Int) (x:PRS)
 | head (t n:Int) (x:HDS)
 | drop (t n:Int) (x:DRS)
 | announce (t n:Int) (x:ANS)
 | answer (t n:Int) (x:AWS)
 | exec (t n:Int) (x:EXS)
 | find (t n:Int) (x:FNS)
 | fast (t n:Int) (x:FTS)
 | help (t n:Int) (x:HPS)
 | doer (t n:Int) (x:DOS)
abbrev Ob:=Mc
def YX(t n:Int)(x:AL):Option (aM Mc):=some (.cells [.int .i64 t,.int .i64 n,.int .i64 x.got,.int .i64 x.at',.int .i64 x.left,.int .u64 x.found,.bool x.free])
def S9(t n:Int)(y:SWS):aD Mc:=match y.ph with
 | 0=>[some (.cells [.ptr 1 0,.raw (.pointer none)]),none]
 | 1=>[some (.cells [.ptr 1 0,.ptr 2 0]),none,some (.cells [.int .i64 t,.int .i64 n,.raw (.slice none 0 0),.raw (.slice none 0 0),.slice 3 0 y.N.length 1,.map 4,.int .i64 y.i,.raw (.pointer none)]),some (.ints (some .i64) y.N),some (.imap .i64 none y.m)]
 | 2=>[some (.cells [.ptr 1 0,.ptr 2 0]),none,some (.cells [.int .i64 t,.int .i64 n,.slice 3 0 y.ks.length 1,.slice 4 0 y.fs.length 1,.slice 5 0 y.N.length 1,.map 6,.int .i64 y.i,.ptr 7 0]),some (.ints (some .i64) y.ks),some (.ints (some .i64) y.fs),some (.ints (some .i64) y.N),some (.imap .i64 none y.m),some (.cells [.int .i64 t,.int .i64 n,.slice 8 y.j y.l 1]),some (.ints (some .i64) y.gs)]
 | _=>[some (.cells [.ptr 1 0,.O]),none]
def JD(t n:Int)(e:ENS):aD Mc:=match e.ph with
 | 0=>[some (.cells [.ptr 1 0,.bool e.sh,.raw (.pointer none),.raw (.pointer none),.bool e.dn]),none]
 | 1=>[some (.cells [.ptr 1 0,.bool e.sh,.ptr 2 0,.raw (.pointer none),.bool e.dn]),none,YX t n e.x]
 | 2=>[some (.cells [.ptr 1 0,.bool e.sh,.ptr 2 0,.ptr 3 0,.bool e.dn]),none,YX t n e.x,some (.cells [.ptr 1 0,.raw (.pointer none)])]
 | 3=>[some (.cells [.ptr 1 0,.bool e.sh,.ptr 2 0,.ptr 3 0,.bool e.dn]),none,YX t n e.x,some (.cells [.ptr 1 0,.ptr 4 0]),some (.cells [.int .i64 t,.int .i64 n,.raw (.slice none 0 0),.raw (.slice none 0 0),.slice 5 0 e.y.N.length 1,.map 6,.int .i64 e.y.i,.raw (.pointer none)]),some (.ints (some .i64) e.y.N),some (.imap .i64 none e.y.m)]
 | _=>[some (.cells [.ptr 1 0,.bool e.sh,.ptr 2 0,.ptr 3 0,.bool e.dn]),none,YX t n e.x,some (.cells [.ptr 1 0,.ptr 4 0]),some (.cells [.int .i64 t,.int .i64 n,.slice 5 0 e.y.ks.length 1,.slice 6 0 e.y.fs.length 1,.slice 7 0 e.y.N.length 1,.map 8,.int .i64 e.y.i,.ptr 9 0]),some (.ints (some .i64) e.y.ks),some (.ints (some .i64) e.y.fs),some (.ints (some .i64) e.y.N),some (.imap .i64 none e.y.m),some (.cells [.int .i64 t,.int .i64 n,.slice 10 e.y.j e.y.l 1]),some (.ints (some .i64) e.y.gs)]
def dJ(t n:Int)(s:STS):aD Mc:=[some (.cells [.int .i64 t,.int .i64 n,.int .i64 s.me,.int .i64 s.sp,.slice 1 0 s.R.length 1]),some (.ints (some .i64) s.R)]
theorem b8{a b:Int}(h:a≠b):ieq a b=false:=by
 rw [bI];simpa using h
abbrev mL(t n:Int)(x:CLS):aD Mc:=[some (.cells [.int .i64 t,.int .i64 n,.int .i64 x.addr,.int .i64 x.at',.int .u64 x.word,.int .u64 x.found])]
def aAu(t n:Int)(x:CLS):aD Mc:=mL t n x
abbrev l9(t n:Int)(x:PRS):aD Mc:=[some (.cells [.ptr 1 0,.int .i64 x.key,.int .i64 x.nxt,.int .u64 x.found,.bool x.loaded]),none]
def SL(t n:Int)(x:PRS):aD Mc:=l9 t n x
abbrev A6(t n:Int)(x:HDS):aD Mc:=[some (.cells [.int .i64 t,.int .i64 n,.int .i64 x.u,.int .u64 x.no,.int .i64 x.at',.bool x.tk])]
def aD0(t n:Int)(x:HDS):aD Mc:=A6 t n x
abbrev AR(t n:Int)(x:DRS):aD Mc:=[some (.cells [.int .i64 t,.int .i64 n,.int .i64 x.th,.int .i64 x.at'])]
def aDK(t n:Int)(x:DRS):aD Mc:=AR t n x
abbrev eX(t n:Int)(x:ANS):aD Mc:=[some (.cells [.int .i64 t,.int .i64 n,.int .u64 x.no,.int .i64 x.me,.int .i64 x.at',.int .u64 x.bits,.bool x.wrong,.int .u64 x.found])]
def LA(t n:Int)(x:ANS):aD Mc:=eX t n x
abbrev qT(t n:Int)(x:AWS):aD Mc:=[some (.cells [.int .i64 t,.int .i64 n,.int .i64 x.code,.bool x.okk,.int .i64 x.val,.int .i64 x.me])]
def T9(t n:Int)(x:AWS):aD Mc:=qT t n x
abbrev gV(t n:Int)(x:EXS):aD Mc:=[some (.cells [.int .i64 t,.int .i64 n,.int .i64 x.popped,.int .i64 x.gave,.int .i64 x.u,.int .i64 x.sh,.int .i64 x.kd,.int .i64 x.ky,.bool x.only,.int .i64 x.att,.int .i64 x.at',.int .u64 x.found,.int .u64 x.word])]
def aDQ(t n:Int)(x:EXS):aD Mc:=gV t n x
abbrev lC(t n:Int)(x:FNS):aD Mc:=[some (.cells [.int .i64 t,.int .i64 n,.int .i64 x.pred,.int .u64 x.pw,.int .i64 x.curr,.int .u64 x.cw,.int .i64 x.tries,.slice 1 0 x.ul.length 1,.bool x.ab,.int .i64 x.me,.int .i64 x.frm,.int .i64 x.key,.int .i64 x.limit,.int .i64 x.at',.int .i64 x.moved,.O]),some (.ints (some .i64) x.ul)]
abbrev rP(t n:Int)(x:FNS):aD Mc:=[some (.cells [.int .i64 t,.int .i64 n,.int .i64 x.pred,.int .u64 x.pw,.int .i64 x.curr,.int .u64 x.cw,.int .i64 x.tries,.slice 1 0 x.ul.length 1,.bool x.ab,.int .i64 x.me,.int .i64 x.frm,.int .i64 x.key,.int .i64 x.limit,.int .i64 x.at',.int .i64 x.moved,.ptr 2 0]),some (.ints (some .i64) x.ul),some (.abs (.clear t n x.cl) [])]
def DR(t n:Int)(x:FNS):aD Mc:=bif ieq x.at' 4 then rP t n x else lC t n x
theorem iK{t n:Int}{x:FNS}(h:x.at'≠4):DR t n x=lC t n x:=by
 have h4:=h;unfold DR;rw [b8 h4];rfl
theorem JO{t n:Int}{x:FNS}(h:x.at'=4):DR t n x=rP t n x:=by
 unfold DR;rw [h];rfl
abbrev wC(t n:Int)(x:FTS):aD Mc:=[some (.cells [.ptr 1 0,.int .i64 x.code,.bool x.okk,.int .i64 x.val,.bool x.failed,.int .i64 x.tries,.int .i64 x.sh,.int .i64 x.kd,.int .i64 x.ky,.int .i64 x.most,.int .i64 x.at',.bool x.p.now,.int .i64 x.p.code,.bool x.p.okk,.int .i64 x.p.val,.int .i64 x.p.addr,.int .u64 x.p.old,.int .i64 x.p.nxt,.bool x.p.mark,.int .i64 x.p.pops,.O,.O,.O]),none]
abbrev lV(t n:Int)(x:FTS):aD Mc:=[some (.cells [.ptr 1 0,.int .i64 x.code,.bool x.okk,.int .i64 x.val,.bool x.failed,.int .i64 x.tries,.int .i64 x.sh,.int .i64 x.kd,.int .i64 x.ky,.int .i64 x.most,.int .i64 x.at',.bool x.p.now,.int .i64 x.p.code,.bool x.p.okk,.int .i64 x.p.val,.int .i64 x.p.addr,.int .u64 x.p.old,.int .i64 x.p.nxt,.bool x.p.mark,.int .i64 x.p.pops,.ptr 2 0,.O,.O]),none,some (.abs (.find t n x.fn) [])]
abbrev nZ(t n:Int)(x:FTS):aD Mc:=[some (.cells [.ptr 1 0,.int .i64 x.code,.bool x.okk,.int .i64 x.val,.bool x.failed,.int .i64 x.tries,.int .i64 x.sh,.int .i64 x.kd,.int .i64 x.ky,.int .i64 x.most,.int .i64 x.at',.bool x.p.now,.int .i64 x.p.code,.bool x.p.okk,.int .i64 x.p.val,.int .i64 x.p.addr,.int .u64 x.p.old,.int .i64 x.p.nxt,.bool x.p.mark,.int .i64 x.p.pops,.O,.ptr 2 0,.O]),none,some (.abs (.clear t n x.cl) [])]
abbrev n5(t n:Int)(x:FTS):aD Mc:=[some (.cells [.ptr 1 0,.int .i64 x.code,.bool x.okk,.int .i64 x.val,.bool x.failed,.int .i64 x.tries,.int .i64 x.sh,.int .i64 x.kd,.int .i64 x.ky,.int .i64 x.most,.int .i64 x.at',.bool x.p.now,.int .i64 x.p.code,.bool x.p.okk,.int .i64 x.p.val,.int .i64 x.p.addr,.int .u64 x.p.old,.int .i64 x.p.nxt,.bool x.p.mark,.int .i64 x.p.pops,.O,.O,.ptr 2 0]),none,some (.abs (.prepare t n x.pr) [1])]
def rN(t n:Int)(x:FTS):aD Mc:=bif ieq x.at' 0 then lV t n x else bif ieq x.at' 1 then nZ t n x else bif ieq x.at' 2 then n5 t n x else wC t n x
theorem DO{t n:Int}{x:FTS}(h:x.at'≠0∧x.at'≠1∧x.at'≠2):rN t n x=wC t n x:=by
 have ⟨h0,h1,h2⟩:=h;unfold rN;rw [b8 h0,b8 h1,b8 h2];rfl
theorem AZ{t n:Int}{x:FTS}(h:x.at'=0):rN t n x=lV t n x:=by
 unfold rN;rw [h];rfl
theorem JL{t n:Int}{x:FTS}(h:x.at'=1):rN t n x=nZ t n x:=by
 unfold rN;rw [h];rfl
theorem JM{t n:Int}{x:FTS}(h:x.at'=2):rN t n x=n5 t n x:=by
 unfold rN;rw [h];rfl
abbrev lF(t n:Int)(x:HPS):aD Mc:=[some (.cells [.ptr 1 0,.int .i64 x.u,.int .u64 x.no,.int .i64 x.rounds,.int .i64 x.limit,.int .i64 x.at',.int .u64 x.found,.int .i64 x.sh,.int .i64 x.kd,.int .i64 x.ky,.bool x.p.now,.int .i64 x.p.code,.bool x.p.okk,.int .i64 x.p.val,.int .i64 x.p.addr,.int .u64 x.p.old,.int .i64 x.p.nxt,.bool x.p.mark,.int .i64 x.p.pops,.O,.O,.O,.O,.O]),none]
abbrev oE(t n:Int)(x:HPS):aD Mc:=[some (.cells [.ptr 1 0,.int .i64 x.u,.int .u64 x.no,.int .i64 x.rounds,.int .i64 x.limit,.int .i64 x.at',.int .u64 x.found,.int .i64 x.sh,.int .i64 x.kd,.int .i64 x.ky,.bool x.p.now,.int .i64 x.p.code,.bool x.p.okk,.int .i64 x.p.val,.int .i64 x.p.addr,.int .u64 x.p.old,.int .i64 x.p.nxt,.bool x.p.mark,.int .i64 x.p.pops,.ptr 2 0,.O,.O,.O,.O]),none,some (.abs (.exec t n x.ex) [])]
abbrev oD(t n:Int)(x:HPS):aD Mc:=[some (.cells [.ptr 1 0,.int .i64 x.u,.int .u64 x.no,.int .i64 x.rounds,.int .i64 x.limit,.int .i64 x.at',.int .u64 x.found,.int .i64 x.sh,.int .i64 x.kd,.int .i64 x.ky,.bool x.p.now,.int .i64 x.p.code,.bool x.p.okk,.int .i64 x.p.val,.int .i64 x.p.addr,.int .u64 x.p.old,.int .i64 x.p.nxt,.bool x.p.mark,.int .i64 x.p.pops,.O,.ptr 2 0,.O,.O,.O]),none,some (.abs (.ensure t n x.en) [1])]
abbrev oF(t n:Int)(x:HPS):aD Mc:=[some (.cells [.ptr 1 0,.int .i64 x.u,.int .u64 x.no,.int .i64 x.rounds,.int .i64 x.limit,.int .i64 x.at',.int .u64 x.found,.int .i64 x.sh,.int .i64 x.kd,.int .i64 x.ky,.bool x.p.now,.int .i64 x.p.code,.bool x.p.okk,.int .i64 x.p.val,.int .i64 x.p.addr,.int .u64 x.p.old,.int .i64 x.p.nxt,.bool x.p.mark,.int .i64 x.p.pops,.O,.O,.ptr 2 0,.O,.O]),none,some (.abs (.find t n x.fn) [])]
abbrev oC(t n:Int)(x:HPS):aD Mc:=[some (.cells [.ptr 1 0,.int .i64 x.u,.int .u64 x.no,.int .i64 x.rounds,.int .i64 x.limit,.int .i64 x.at',.int .u64 x.found,.int .i64 x.sh,.int .i64 x.kd,.int .i64 x.ky,.bool x.p.now,.int .i64 x.p.code,.bool x.p.okk,.int .i64 x.p.val,.int .i64 x.p.addr,.int .u64 x.p.old,.int .i64 x.p.nxt,.bool x.p.mark,.int .i64 x.p.pops,.O,.O,.O,.ptr 2 0,.O]),none,some (.abs (.clear t n x.cl) [])]
abbrev oG(t n:Int)(x:HPS):aD Mc:=[some (.cells [.ptr 1 0,.int .i64 x.u,.int .u64 x.no,.int .i64 x.rounds,.int .i64 x.limit,.int .i64 x.at',.int .u64 x.found,.int .i64 x.sh,.int .i64 x.kd,.int .i64 x.ky,.bool x.p.now,.int .i64 x.p.code,.bool x.p.okk,.int .i64 x.p.val,.int .i64 x.p.addr,.int .u64 x.p.old,.int .i64 x.p.nxt,.bool x.p.mark,.int .i64 x.p.pops,.O,.O,.O,.O,.ptr 2 0]),none,some (.abs (.prepare t n x.pr) [1])]
def lX(t n:Int)(x:HPS):aD Mc:=bif ieq x.at' 3 then oE t n x else bif ieq x.at' 4 then oD t n x else bif ieq x.at' 5 then oF t n x else bif ieq x.at' 7 then oC t n x else bif ieq x.at' 8 then oG t n x else lF t n x
theorem jZ{t n:Int}{x:HPS}(h:x.at'≠3∧x.at'≠4∧x.at'≠5∧x.at'≠7∧x.at'≠8):lX t n x=lF t n x:=by
 have ⟨h3,h4,h5,h7,h8⟩:=h;unfold lX;rw [b8 h3,b8 h4,b8 h5,b8 h7,b8 h8];rfl
theorem JW{t n:Int}{x:HPS}(h:x.at'=3):lX t n x=oE t n x:=by
 unfold lX;rw [h];rfl
theorem JX{t n:Int}{x:HPS}(h:x.at'=4):lX t n x=oD t n x:=by
 unfold lX;rw [h];rfl
theorem JY{t n:Int}{x:HPS}(h:x.at'=5):lX t n x=oF t n x:=by
 unfold lX;rw [h];rfl
theorem JZ{t n:Int}{x:HPS}(h:x.at'=7):lX t n x=oC t n x:=by
 unfold lX;rw [h];rfl
theorem J0{t n:Int}{x:HPS}(h:x.at'=8):lX t n x=oG t n x:=by
 unfold lX;rw [h];rfl
abbrev AO(t n:Int)(x:DOS):aD Mc:=[some (.cells [.ptr 1 0,.int .i64 x.code,.bool x.okk,.int .i64 x.val,.bool x.slow,.int .i64 x.sh,.int .i64 x.kd,.int .i64 x.ky,.int .i64 x.limit,.int .i64 x.at',.O,.O,.O,.O,.O,.O,.O,.O,.O]),none]
abbrev lS(t n:Int)(x:DOS):aD Mc:=[some (.cells [.ptr 1 0,.int .i64 x.code,.bool x.okk,.int .i64 x.val,.bool x.slow,.int .i64 x.sh,.int .i64 x.kd,.int .i64 x.ky,.int .i64 x.limit,.int .i64 x.at',.ptr 2 0,.O,.O,.O,.O,.O,.O,.O,.O]),none,some (.abs (.head t n x.hd) [])]
abbrev fR(t n:Int)(x:DOS):aD Mc:=[some (.cells [.ptr 1 0,.int .i64 x.code,.bool x.okk,.int .i64 x.val,.bool x.slow,.int .i64 x.sh,.int .i64 x.kd,.int .i64 x.ky,.int .i64 x.limit,.int .i64 x.at',.O,.ptr 2 0,.O,.O,.O,.O,.O,.O,.O]),none,some (.abs (.help t n x.hp) [1])]
abbrev nU(t n:Int)(x:DOS):aD Mc:=[some (.cells [.ptr 1 0,.int .i64 x.code,.bool x.okk,.int .i64 x.val,.bool x.slow,.int .i64 x.sh,.int .i64 x.kd,.int .i64 x.ky,.int .i64 x.limit,.int .i64 x.at',.O,.O,.ptr 2 0,.O,.O,.O,.O,.O,.O]),none,some (.abs (.ensure t n x.en) [1])]
abbrev nW(t n:Int)(x:DOS):aD Mc:=[some (.cells [.ptr 1 0,.int .i64 x.code,.bool x.okk,.int .i64 x.val,.bool x.slow,.int .i64 x.sh,.int .i64 x.kd,.int .i64 x.ky,.int .i64 x.limit,.int .i64 x.at',.O,.O,.O,.ptr 2 0,.O,.O,.O,.O,.O]),none,some (.abs (.fast t n x.ft) [1])]
abbrev nR(t n:Int)(x:DOS):aD Mc:=[some (.cells [.ptr 1 0,.int .i64 x.code,.bool x.okk,.int .i64 x.val,.bool x.slow,.int .i64 x.sh,.int .i64 x.kd,.int .i64 x.ky,.int .i64 x.limit,.int .i64 x.at',.O,.O,.O,.O,.ptr 2 0,.O,.O,.O,.O]),none,some (.abs (.announce t n x.an) [])]
abbrev nS(t n:Int)(x:DOS):aD Mc:=[some (.cells [.ptr 1 0,.int .i64 x.code,.bool x.okk,.int .i64 x.val,.bool x.slow,.int .i64 x.sh,.int .i64 x.kd,.int .i64 x.ky,.int .i64 x.limit,.int .i64 x.at',.O,.O,.O,.O,.O,.ptr 2 0,.O,.O,.O]),none,some (.abs (.answer t n x.aw) [])]
abbrev nV(t n:Int)(x:DOS):aD Mc:=[some (.cells [.ptr 1 0,.int .i64 x.code,.bool x.okk,.int .i64 x.val,.bool x.slow,.int .i64 x.sh,.int .i64 x.kd,.int .i64 x.ky,.int .i64 x.limit,.int .i64 x.at',.O,.O,.O,.O,.O,.O,.ptr 2 0,.O,.O]),none,some (.abs (.find t n x.fn) [])]
abbrev nT(t n:Int)(x:DOS):aD Mc:=[some (.cells [.ptr 1 0,.int .i64 x.code,.bool x.okk,.int .i64 x.val,.bool x.slow,.int .i64 x.sh,.int .i64 x.kd,.int .i64 x.ky,.int .i64 x.limit,.int .i64 x.at',.O,.O,.O,.O,.O,.O,.O,.ptr 2 0,.O]),none,some (.abs (.drop t n x.dr) [])]
abbrev nX(t n:Int)(x:DOS):aD Mc:=[some (.cells [.ptr 1 0,.int .i64 x.code,.bool x.okk,.int .i64 x.val,.bool x.slow,.int .i64 x.sh,.int .i64 x.kd,.int .i64 x.ky,.int .i64 x.limit,.int .i64 x.at',.O,.O,.O,.O,.O,.O,.O,.O,.ptr 2 0]),none,some (.abs (.sweep t n x.sw) [1])]
def fA(t n:Int)(x:DOS):aD Mc:=bif ieq x.at' 0 then lS t n x else bif ieq x.at' 1 then fR t n x else bif ieq x.at' 5 then fR t n x else bif ieq x.at' 2 then nU t n x else bif ieq x.at' 3 then nW t n x else bif ieq x.at' 4 then nR t n x else bif ieq x.at' 6 then nS t n x else bif ieq x.at' 7 then nV t n x else bif ieq x.at' 8 then nT t n x else bif ieq x.at' 9 then nX t n x else AO t n x
theorem P3{t n:Int}{x:DOS}(h:x.at'≠0∧x.at'≠1∧x.at'≠5∧x.at'≠2∧x.at'≠3∧x.at'≠4∧x.at'≠6∧x.at'≠7∧x.at'≠8∧x.at'≠9):fA t n x=AO t n x:=by
 have ⟨h0,h1,h5,h2,h3,h4,h6,h7,h8,h9⟩:=h;unfold fA;rw [b8 h0,b8 h1,b8 h5,b8 h2,b8 h3,b8 h4,b8 h6,b8 h7,b8 h8,b8 h9];rfl
theorem AP{t n:Int}{x:DOS}(h:x.at'=0):fA t n x=lS t n x:=by
 unfold fA;rw [h];rfl
theorem IZ{t n:Int}{x:DOS}(h:x.at'=1):fA t n x=fR t n x:=by
 unfold fA;rw [h];rfl
theorem I3{t n:Int}{x:DOS}(h:x.at'=5):fA t n x=fR t n x:=by
 unfold fA;rw [h];rfl
theorem I0{t n:Int}{x:DOS}(h:x.at'=2):fA t n x=nU t n x:=by
 unfold fA;rw [h];rfl
theorem I1{t n:Int}{x:DOS}(h:x.at'=3):fA t n x=nW t n x:=by
 unfold fA;rw [h];rfl
theorem I2{t n:Int}{x:DOS}(h:x.at'=4):fA t n x=nR t n x:=by
 unfold fA;rw [h];rfl
theorem I4{t n:Int}{x:DOS}(h:x.at'=6):fA t n x=nS t n x:=by
 unfold fA;rw [h];rfl
theorem I5{t n:Int}{x:DOS}(h:x.at'=7):fA t n x=nV t n x:=by
 unfold fA;rw [h];rfl
theorem I6{t n:Int}{x:DOS}(h:x.at'=8):fA t n x=nT t n x:=by
 unfold fA;rw [h];rfl
theorem I7{t n:Int}{x:DOS}(h:x.at'=9):fA t n x=nX t n x:=by
 unfold fA;rw [h];rfl
def tbl:Mc→Nat×aD Mc
 | .sweep t n y=>(1,S9 t n y)
 | .ensure t n e=>(1,JD t n e)
 | .store t n s=>(0,dJ t n s)
 | .clear t n x=>(0,aAu t n x)
 | .prepare t n x=>(1,SL t n x)
 | .head t n x=>(0,aD0 t n x)
 | .drop t n x=>(0,aDK t n x)
 | .announce t n x=>(0,LA t n x)
 | .answer t n x=>(0,T9 t n x)
 | .exec t n x=>(0,aDQ t n x)
 | .find t n x=>(0,DR t n x)
 | .fast t n x=>(1,rN t n x)
 | .help t n x=>(1,lX t n x)
 | .doer t n x=>(1,fA t n x)
def memH(s:MS):aD Ob:=[some (.cells [.int .i64 s.t,.int .i64 s.n,.slice 1 0 s.xs.length 1,.int .i64 s.c,.int .i64 s.k,.int .i64 s.a,.int .u64 s.o,.int .u64 s.w,.bool s.ok]),some (.ints (some .u64) s.xs)]
noncomputable def E0:qR Ob Tryz.prog where
 I:=obI tbl
 cps:=fun _=>none
 det:=fun _=>none
 meth:=H1 Tryz.prog
 cpsOk:=by intro f S h;cases h
 detOk:=by intro f S h;cases h
 methOk:=fun t n f h v w _=>H2 h v w
theorem aL{b:Bool}{X Y:Prop}(h1:b=true→X)(h2:b=false→Y):cond b X Y:=G3 h1 h2
def laySizeS:aG Ob:=fun args h=>match args,h with
 | [.agg [.int .i64 t,.int .i64 n]],[]=>some (.pre ((0≤t∧t≤100000)∧(0≤n∧n≤100000)) (.ret (.int .i64 (2*n+5*t+6)) []))
 | _,_=>none
theorem HV:aG.ok E0.I Tryz.prog 130 laySizeS:=by
 intro args h o ho K hK;unfold laySizeS at ho;split at ho<;>cases ho
 rename_i t n;obtain⟨hp,hK⟩:=hK;have hK:K (.int .i64 (2*n+5*t+6)) []:=hK;refine aFQ (aE (E:=E0) Tryz.checked.mixed (L:=fun _ _=>none) (n:=10) (aN (q:=K (.int .i64 (W (W (W (W (W (W (W (W (W (1+n)+4)+W (n+1)) - 1)+W (2*t))+0)+W (3*t))+0)+1))) []) (by kernel_rfl) ?_))
 simp(disch:=omega) only [W,cJ]
 refine cast (congrArg (fun z=>K (AVal.int .i64 z) []) ?_) hK;omega
def layLifeS:aG Ob:=fun args h=>match args,h with
 | [.agg [.int .i64 t,.int .i64 n],.int .i64 a],[]=>some (.pre ((0≤t∧t≤100000)∧(0≤n∧n≤100000)∧(-1099511627776≤a∧a≤1099511627776)) (.ret (.int .i64 (n+4+a)) []))
 | _,_=>none
theorem HT:aG.ok E0.I Tryz.prog 45 layLifeS:=by
 intro args h o ho K hK;unfold layLifeS at ho;split at ho<;>cases ho
 rename_i t n a;obtain⟨hp,hK⟩:=hK;have hK:K (.int .i64 (n+4+a)) []:=hK;refine aFQ (aE (E:=E0) Tryz.checked.mixed (L:=fun _ _=>none) (n:=10) (aN (q:=K (.int .i64 (W (W (W (W (1+n)+4)+a) - 1))) []) (by kernel_rfl) ?_))
 simp(disch:=omega) only [W,cJ]
 refine cast (congrArg (fun z=>K (AVal.int .i64 z) []) ?_) hK;omega
def laySlotS:aG Ob:=fun args h=>match args,h with
 | [.agg [.int .i64 t,.int .i64 n],.int .i64 a,.int .i64 b],[]=>some (.pre ((0≤t∧t≤100000)∧(0≤n∧n≤100000)∧(-1099511627776≤a∧a≤1099511627776)∧(-1099511627776≤b∧b≤1099511627776)) (.ret (.int .i64 (2*n+5+2*a+b)) []))
 | _,_=>none
theorem HW:aG.ok E0.I Tryz.prog 152 laySlotS:=by
 intro args h o ho K hK;unfold laySlotS at ho;split at ho<;>cases ho
 rename_i t n a b;obtain⟨hp,hK⟩:=hK;have hK:K (.int .i64 (2*n+5+2*a+b)) []:=hK;refine aFQ (aE (E:=E0) Tryz.checked.mixed (L:=fun _ _=>none) (n:=10) (aN (q:=K (.int .i64 (W (W (W (W (W (W (1+n)+4)+W (n+1)) - 1)+W (2*a))+b))) []) (by kernel_rfl) ?_))
 simp(disch:=omega) only [W,cJ]
 refine cast (congrArg (fun z=>K (AVal.int .i64 z) []) ?_) hK;omega
def layDescS:aG Ob:=fun args h=>match args,h with
 | [.agg [.int .i64 t,.int .i64 n],.int .i64 a],[]=>some (.pre ((0≤t∧t≤100000)∧(0≤n∧n≤100000)∧(-1099511627776≤a∧a≤1099511627776)) (.ret (.int .i64 (2*n+5+2*t+3*a+2)) []))
 | _,_=>none
theorem HS:aG.ok E0.I Tryz.prog 103 layDescS:=by
 intro args h o ho K hK;unfold layDescS at ho;split at ho<;>cases ho
 rename_i t n a;obtain⟨hp,hK⟩:=hK;have hK:K (.int .i64 (2*n+5+2*t+3*a+2)) []:=hK;refine aFQ (aE (E:=E0) Tryz.checked.mixed (L:=fun _ _=>none) (n:=10) (aN (q:=K (.int .i64 (W (W (W (W (W (W (W (W (1+n)+4)+W (n+1)) - 1)+W (2*t))+0)+W (3*a))+2))) []) (by kernel_rfl) ?_))
 simp(disch:=omega) only [W,cJ]
 refine cast (congrArg (fun z=>K (AVal.int .i64 z) []) ?_) hK;omega
def layTaskS:aG Ob:=fun args h=>match args,h with
 | [.agg [.int .i64 t,.int .i64 n],.int .i64 a],[]=>some (.pre ((0≤t∧t≤100000)∧(0≤n∧n≤100000)∧(-1099511627776≤a∧a≤1099511627776)) (.ret (.int .i64 (2*n+5+2*t+3*a+1)) []))
 | _,_=>none
theorem HX:aG.ok E0.I Tryz.prog 112 layTaskS:=by
 intro args h o ho K hK;unfold layTaskS at ho;split at ho<;>cases ho
 rename_i t n a;obtain⟨hp,hK⟩:=hK;have hK:K (.int .i64 (2*n+5+2*t+3*a+1)) []:=hK;refine aFQ (aE (E:=E0) Tryz.checked.mixed (L:=fun _ _=>none) (n:=10) (aN (q:=K (.int .i64 (W (W (W (W (W (W (W (W (1+n)+4)+W (n+1)) - 1)+W (2*t))+0)+W (3*a))+1))) []) (by kernel_rfl) ?_))
 simp(disch:=omega) only [W,cJ]
 refine cast (congrArg (fun z=>K (AVal.int .i64 z) []) ?_) hK;omega
def layTicketS:aG Ob:=fun args h=>match args,h with
 | [.agg [.int .i64 t,.int .i64 n],.int .i64 a],[]=>some (.pre ((0≤t∧t≤100000)∧(0≤n∧n≤100000)∧(-1099511627776≤a∧a≤1099511627776)) (.ret (.int .i64 (2*n+5+2*t+3*a)) []))
 | _,_=>none
theorem BB:aG.ok E0.I Tryz.prog 110 layTicketS:=by
 intro args h o ho K hK;unfold layTicketS at ho;split at ho<;>cases ho
 rename_i t n a;obtain⟨hp,hK⟩:=hK;have hK:K (.int .i64 (2*n+5+2*t+3*a)) []:=hK;refine aFQ (aE (E:=E0) Tryz.checked.mixed (L:=fun _ _=>none) (n:=10) (aN (q:=K (.int .i64 (W (W (W (W (W (W (W (W (1+n)+4)+W (n+1)) - 1)+W (2*t))+0)+W (3*a))+0))) []) (by kernel_rfl) ?_))
 simp(disch:=omega) only [W,cJ]
 refine cast (congrArg (fun z=>K (AVal.int .i64 z) []) ?_) hK;omega
def layCounterS:aG Ob:=fun args h=>match args,h with
 | [.agg [.int .i64 t,.int .i64 n]],[]=>some (.pre ((0≤t∧t≤100000)∧(0≤n∧n≤100000)) (.ret (.int .i64 (2*n+5+2*t+3*t)) []))
 | _,_=>none
theorem x6:aG.ok E0.I Tryz.prog 61 layCounterS:=by
 intro args h o ho K hK;unfold layCounterS at ho;split at ho<;>cases ho
 rename_i t n;obtain⟨hp,hK⟩:=hK;have hK:K (.int .i64 (2*n+5+2*t+3*t)) []:=hK;refine aFQ (aE (E:=E0) Tryz.checked.mixed (L:=fun _ _=>none) (n:=10) (aN (q:=K (.int .i64 (W (W (W (W (W (W (W (W (1+n)+4)+W (n+1)) - 1)+W (2*t))+0)+W (3*t))+0))) []) (by kernel_rfl) ?_))
 simp(disch:=omega) only [W,cJ]
 refine cast (congrArg (fun z=>K (AVal.int .i64 z) []) ?_) hK;omega
def slotsS:aG Ob:=fun args h=>match args,h with
 | [.agg [.int .i64 t,.int .i64 n]],[]=>some (.pre ((0≤t∧t≤100000)∧(0≤n∧n≤100000)) (.ret (.int .i64 (2*t)) []))
 | _,_=>none
theorem S3:aG.ok E0.I Tryz.prog 181 slotsS:=by
 intro args h o ho K hK;unfold slotsS at ho;split at ho<;>cases ho
 rename_i t n;obtain⟨hp,hK⟩:=hK;have hK:K (.int .i64 (2*t)) []:=hK;refine aFQ (aE (E:=E0) Tryz.checked.mixed (L:=fun _ _=>none) (n:=10) (aN (q:=K (.int .i64 (W (2*t))) []) (by kernel_rfl) ?_))
 simp(disch:=omega) only [W,cJ]
 refine cast (congrArg (fun z=>K (AVal.int .i64 z) []) ?_) hK;omega
def mZ(t n:Int):Bool:=ile 1 t&&ile t 8&&ile 1 n&&ile n 200
theorem FQ{t n:Int} :mZ t n=true↔1≤t∧t≤8∧1≤n∧n≤200:=by
 unfold mZ;simp only [bX,Bool.and_eq_true,dT'];omega
def bK(n a:Int):Bool:=ile 1 a&&ile a n
theorem kD{n a:Int} :bK n a=true↔1≤a∧a≤n:=by
 unfold bK;simp only [bX,Bool.and_eq_true,dT']
def layRightS:aG Ob:=fun args h=>match args,h with
 | [.agg [.int .i64 t,.int .i64 n]],[]=>some (.pre (True) (.ret (.bool (mZ t n)) []))
 | _,_=>none
theorem EN:aG.ok E0.I Tryz.prog 129 layRightS:=by
 intro args h o ho K hK;unfold layRightS at ho;split at ho<;>cases ho
 rename_i t n;obtain⟨hp,hK⟩:=hK;have hK:K (.bool (mZ t n)) []:=hK;refine aFQ (aE (E:=E0) Tryz.checked.mixed (L:=fun _ _=>none) (n:=10) (aN (q:=bif ile 1 t then bif ile t 8 then bif ile 1 n then K (.bool (ile n 200)) []else K (.bool false) []else K (.bool false) []else K (.bool false) []) (by kernel_rfl) ?_))
 unfold mZ at hK;refine aL (fun e1=>aL (fun e2=>aL (fun e3=>?_) (fun e3=>?_)) (fun e2=>?_)) (fun e1=>?_)
 all_goals (simp only [*,Bool.true_and,Bool.false_and,Bool.and_false]at hK;exact hK)
def layNodeS:aG Ob:=fun args h=>match args,h with
 | [.agg [.int .i64 t,.int .i64 n],.int .i64 a],[]=>some (.pre (True) (.ret (.bool (bK n a)) []))
 | _,_=>none
theorem HU:aG.ok E0.I Tryz.prog 123 layNodeS:=by
 intro args h o ho K hK;unfold layNodeS at ho;split at ho<;>cases ho
 rename_i t n a;obtain⟨hp,hK⟩:=hK;have hK:K (.bool (bK n a)) []:=hK;refine aFQ (aE (E:=E0) Tryz.checked.mixed (L:=fun _ _=>none) (n:=10) (aN (q:=bif ile 1 a then K (.bool (ile a n)) []else K (.bool false) []) (by kernel_rfl) ?_))
 unfold bK at hK;refine aL (fun e1=>?_) (fun e1=>?_)
 all_goals (simp only [*,Bool.true_and,Bool.false_and,Bool.and_false]at hK;exact hK)
noncomputable def E1:=(((((((((E0.addS 130 laySizeS HV).addS 45 layLifeS HT).addS 152 laySlotS HW).addS 103 layDescS HS).addS 112 layTaskS HX).addS 110 layTicketS BB).addS 61 layCounterS x6).addS 181 slotsS S3).addS 129 layRightS EN).addS 123 layNodeS HU
def aB(xs:List Int)(a:Int):Int:=if 0≤a∧a<xs.length then xs.getD a.toNat 0 else 0
theorem KB{xs:List Int}{a:Int}(h:0≤a∧a<xs.length):aB xs a=xs.getD a.toNat 0:=if_pos h
theorem iQ{xs:List Int}{a:Int}(h: ¬(0≤a∧a<xs.length)):aB xs a=0:=if_neg h
def bS(xs:List Int)(a:Int):Bool:=ile 0 a&&ilt a (xs.length:Int)
theorem lY{xs:List Int}{a:Int} :bS xs a=true↔0≤a∧a<xs.length:=by
 unfold bS;simp only [bX,bJ,Bool.and_eq_true,dT']
def aFj(xs:List Int)(a x:Int):List Int:=xs.set a.toNat x
def MS.did(s:MS)(k a w:Int)(ok:Bool)(xs:List Int):MS:= {s with xs:=xs,c:=s.c+1,k:=k,a:=a,o:=aB s.xs a,w:=w,ok:=ok}
def MS.load(s:MS)(a:Int):MS:=s.did 1 a (aB s.xs a) (bS s.xs a) s.xs
def MS.store(s:MS)(a x:Int):MS:=bif bS s.xs a then s.did 2 a x true (aFj s.xs a x)else s.did 2 a 0 false s.xs
def oH(h:aD Ob):Option (Nat×MS):=match h with
 | [some (.cells [.int .i64 t,.int .i64 n,.slice 1 0 len 1,.int .i64 c,.int .i64 k,.int .i64 a,.int .u64 o,.int .u64 w,.bool ok]),some (.ints (some .u64) xs)]=>some (len,⟨t,n,xs,c,k,a,o,w,ok⟩)
 | _=>none
theorem jN{h:aD Ob}{l:Nat}{s:MS}(e:oH h=some (l,s))(hl:l=s.xs.length):h=memH s:=by
 unfold oH at e;split at e
 ·simp only [sI',pI']at e;obtain⟨rfl,rfl⟩:=e;simp only at hl;subst hl;rfl
 ·cases e
theorem wQ(x:Nat):0+x*1=x:=by omega
def peekS:aG Ob:=fun args h=>match args,oH h with
 | [.ptr 0 0,.int .i64 a],some (l,s)=>some (.pre (l=s.xs.length∧True) (.ret (.int .u64 (aB s.xs a)) (memH (s))))
 | _,_=>none
theorem XS:aG.ok E1.I Tryz.prog 60 peekS:=by
 intro args h o ho K hK;unfold peekS at ho;split at ho<;>cases ho
 rename_i a l s hm;obtain⟨⟨hl,hp⟩,hK⟩:=hK;have hh:=jN hm hl;subst hh;have hK:K (.int .u64 (aB s.xs a)) (memH (s)):=hK;refine aFQ (aE (E:=E1) Tryz.checked.mixed (L:=fun _ _=>none) (n:=10) (aN (q:=bif ilt a 0 then K (.int .u64 0) [some (.cells [.int .i64 s.1,.int .i64 s.2,.slice 1 0 s.3.length 1,.int .i64 s.4,.int .i64 s.5,.int .i64 s.6,.int .u64 s.7,.int .u64 s.8,.bool s.9]),some (.ints (some .u64) s.3)]else bif ile (↑s.3.length:Int) a then K (.int .u64 0) [some (.cells [.int .i64 s.1,.int .i64 s.2,.slice 1 0 s.3.length 1,.int .i64 s.4,.int .i64 s.5,.int .i64 s.6,.int .u64 s.7,.int .u64 s.8,.bool s.9]),some (.ints (some .u64) s.3)]else((0:Int)≤a∧a<(↑s.3.length:Int))∧0+Int.toNat a*(1:Nat)<s.3.length∧K (.int .u64 (List.getD s.3 (0+Int.toNat a*1) 0)) [some (.cells [.int .i64 s.1,.int .i64 s.2,.slice 1 0 s.3.length 1,.int .i64 s.4,.int .i64 s.5,.int .i64 s.6,.int .u64 s.7,.int .u64 s.8,.bool s.9]),some (.ints (some .u64) s.3)]) (by kernel_rfl) ?_))
 refine aL (fun e1=>?_) (fun e1=>aL (fun e2=>?_) (fun e2=>?_))
 ·rw [bJ,dT']at e1;rw [iQ (by omega)]at hK;exact hK
 ·rw [bX,dT']at e2;rw [iQ (by omega)]at hK;exact hK
 ·rw [bJ,dF']at e1;rw [bX,dF']at e2;refine⟨by omega,by omega,?_⟩
  rw [KB (by omega)]at hK
  rw [wQ];exact hK
noncomputable def E2:=(((E1.addS 60 peekS XS)))
def aS(xs:List Int)(a x:Int):List Int:=if 0≤a∧a<xs.length then xs.set a.toNat x else xs
theorem cC(xs:List Int)(a x:Int):(aS xs a x).length =xs.length:=by unfold aS;split<;>simp
theorem vF{xs:List Int}{a x:Int}(h:0≤a∧a<xs.length):aS xs a x=xs.set a.toNat x:=if_pos h
theorem oM{xs:List Int}{a x:Int}(h: ¬(0≤a∧a<xs.length)):aS xs a x=xs:=if_neg h
theorem gB{xs:List Int}{a:Int}(h: ¬(0≤a∧a<xs.length)):bS xs a=false:=by
 cases e:bS xs a with
 | false=>rfl
 | true=>exact(h (lY.1 e)).elim
theorem S0{xs:List Int}{a:Int}(h:0≤a∧a<xs.length):xs.set a.toNat (aB xs a)=xs:=by
 rw [KB h];apply List.ext_getElem?;intro i;rw [List.getElem?_set]
 by_cases hi:a.toNat=i
 ·subst hi;have:a.toNat<xs.length:=by omega
  simp [this]
 ·simp [hi]
def MS.loadd(s:MS)(a:Int):MS:=s.did 1 a (aB s.xs a) (bS s.xs a) s.xs
def MS.stored(s:MS)(a x:Int):MS:=s.did 2 a (bif bS s.xs a then x else 0) (bS s.xs a) (aS s.xs a x)
def aT(xs:List Int)(a x:Int):Bool:=bS xs a&&ieq (aB xs a) x
def MS.cased(s:MS)(a x y:Int):MS:=s.did 3 a (bif bS s.xs a then y else 0) (aT s.xs a x) (bif aT s.xs a x then aS s.xs a y else s.xs)
def MS.added(s:MS)(a x:Int):MS:=s.did 4 a (bif bS s.xs a then IntKind.wrap .u64 (aB s.xs a+x)else 0) (bS s.xs a) (aS s.xs a (IntKind.wrap .u64 (aB s.xs a+x)))
theorem sD(s:MS)(k a w:Int)(ok:Bool)(xs:List Int)(h:xs.length=s.xs.length):memH (s.did k a w ok xs)=[some (.cells [.int .i64 s.t,.int .i64 s.n,.slice 1 0 s.xs.length 1,.int .i64 (s.c+1),.int .i64 k,.int .i64 a,.int .u64 (aB s.xs a),.int .u64 w,.bool ok]),some (.ints (some .u64) xs)]:=by
 unfold memH MS.did;simp only [h]
def loadS:aG Ob:=fun args h=>match args,oH h with
 | [.ptr 0 0,.int .i64 a],some (l,s)=>some (.pre (l=s.xs.length∧(0≤s.c∧s.c≤4611686018427387904)) (.ret (.int .u64 (aB s.xs a)) (memH (s.loadd a))))
 | _,_=>none
theorem XO:aG.ok E2.I Tryz.prog 93 loadS:=by
 intro args h o ho K hK;unfold loadS at ho;split at ho<;>cases ho
 rename_i a l s hm;obtain⟨⟨hl,hp⟩,hK⟩:=hK;have hh:=jN hm hl;subst hh;have hK:K (.int .u64 (aB s.xs a)) (memH (s.loadd a)):=hK;refine aFQ (aE (E:=E2) Tryz.checked.mixed (L:=fun _ _=>none) (n:=10) (aN (q:=(lE' s.3∧True)∧bif ilt a 0 then K (.int .u64 (aB s.3 a)) [some (.cells [.int .i64 s.1,.int .i64 s.2,.slice 1 0 s.3.length 1,.int .i64 (W (s.4+1)),.int .i64 1,.int .i64 a,.int .u64 (aB s.3 a),.int .u64 (aB s.3 a),.bool false]),some (.ints (some .u64) s.3)]else bif ile (↑s.3.length:Int) a then K (.int .u64 (aB s.3 a)) [some (.cells [.int .i64 s.1,.int .i64 s.2,.slice 1 0 s.3.length 1,.int .i64 (W (s.4+1)),.int .i64 1,.int .i64 a,.int .u64 (aB s.3 a),.int .u64 (aB s.3 a),.bool false]),some (.ints (some .u64) s.3)]else((0:Int)≤a∧a<(↑s.3.length:Int))∧0+Int.toNat a*(1:Nat)<s.3.length∧K (.int .u64 (aB s.3 a)) [some (.cells [.int .i64 s.1,.int .i64 s.2,.slice 1 0 s.3.length 1,.int .i64 (W (s.4+1)),.int .i64 1,.int .i64 a,.int .u64 (aB s.3 a),.int .u64 (aB s.3 a),.bool true]),some (.ints (some .u64) (List.set s.3 (0+Int.toNat a*1) (aB s.3 a)))]) (by kernel_rfl) ?_))
 refine⟨⟨rfl,trivial⟩,?_⟩;have hc:IntKind.wrap .i64 (s.c+1)=s.c+1:=cJ (by omega)
 simp only [W,WU,hc,wQ];unfold MS.loadd at hK;rw [sD _ _ _ _ _ _ rfl]at hK;refine aL (fun e1=>?_) (fun e1=>aL (fun e2=>?_) (fun e2=>?_))
 ·rw [bJ,dT']at e1;rw [gB (by omega)]at hK;exact hK
 ·rw [bX,dT']at e2;rw [gB (by omega)]at hK;exact hK
 ·rw [bJ,dF']at e1;rw [bX,dF']at e2;refine⟨by omega,by omega,?_⟩
  rw [lY.2 (by omega)]at hK
  rw [S0 (by omega)];exact hK
def storeS:aG Ob:=fun args h=>match args,oH h with
 | [.ptr 0 0,.int .i64 a,.int .u64 x],some (l,s)=>some (.pre (l=s.xs.length∧(0≤s.c∧s.c≤4611686018427387904)) (.ret (.tup []) (memH (s.stored a x))))
 | _,_=>none
theorem S5:aG.ok E2.I Tryz.prog 44 storeS:=by
 intro args h o ho K hK;unfold storeS at ho;split at ho<;>cases ho
 rename_i a x l s hm;obtain⟨⟨hl,hp⟩,hK⟩:=hK;have hh:=jN hm hl;subst hh;have hK:K (.tup []) (memH (s.stored a x)):=hK;refine aFQ (aE (E:=E2) Tryz.checked.mixed (L:=fun _ _=>none) (n:=10) (aN (q:=(lE' s.3∧True)∧bif ilt a 0 then K (.tup []) [some (.cells [.int .i64 s.1,.int .i64 s.2,.slice 1 0 s.3.length 1,.int .i64 (W (s.4+1)),.int .i64 2,.int .i64 a,.int .u64 (aB s.3 a),.int .u64 (aB s.3 a),.bool false]),some (.ints (some .u64) s.3)]else bif ile (↑s.3.length:Int) a then K (.tup []) [some (.cells [.int .i64 s.1,.int .i64 s.2,.slice 1 0 s.3.length 1,.int .i64 (W (s.4+1)),.int .i64 2,.int .i64 a,.int .u64 (aB s.3 a),.int .u64 (aB s.3 a),.bool false]),some (.ints (some .u64) s.3)]else((0:Int)≤a∧a<(↑s.3.length:Int))∧0+Int.toNat a*(1:Nat)<s.3.length∧K (.tup []) [some (.cells [.int .i64 s.1,.int .i64 s.2,.slice 1 0 s.3.length 1,.int .i64 (W (s.4+1)),.int .i64 2,.int .i64 a,.int .u64 (aB s.3 a),.int .u64 x,.bool true]),some (.ints (some .u64) (List.set s.3 (0+Int.toNat a*1) x))]) (by kernel_rfl) ?_))
 refine⟨⟨rfl,trivial⟩,?_⟩;have hc:IntKind.wrap .i64 (s.c+1)=s.c+1:=cJ (by omega)
 simp only [W,WU,hc,wQ];unfold MS.stored at hK;rw [sD _ _ _ _ _ _ (cC _ _ _)]at hK;refine aL (fun e1=>?_) (fun e1=>aL (fun e2=>?_) (fun e2=>?_))
 ·rw [bJ,dT']at e1;rw [gB (by omega),oM (by omega)]at hK
  rw [iQ (by omega)]at hK⊢;exact hK
 ·rw [bX,dT']at e2;rw [gB (by omega),oM (by omega)]at hK
  rw [iQ (by omega)]at hK⊢;exact hK
 ·rw [bJ,dF']at e1;rw [bX,dF']at e2;refine⟨by omega,by omega,?_⟩
  rw [lY.2 (by omega),vF (by omega)]at hK
  exact hK
def casS:aG Ob:=fun args h=>match args,oH h with
 | [.ptr 0 0,.int .i64 a,.int .u64 x,.int .u64 y],some (l,s)=>some (.pre (l=s.xs.length∧(0≤s.c∧s.c≤4611686018427387904)) (.ret (.bool (aT s.xs a x)) (memH (s.cased a x y))))
 | _,_=>none
theorem aAp:aG.ok E2.I Tryz.prog 99 casS:=by
 intro args h o ho K hK;unfold casS at ho;split at ho<;>cases ho
 rename_i a x y l s hm;obtain⟨⟨hl,hp⟩,hK⟩:=hK;have hh:=jN hm hl;subst hh;have hK:K (.bool (aT s.xs a x)) (memH (s.cased a x y)):=hK;refine aFQ (aE (E:=E2) Tryz.checked.mixed (L:=fun _ _=>none) (n:=10) (aN (q:=(lE' s.3∧True)∧bif ilt a 0 then K (.bool false) [some (.cells [.int .i64 s.1,.int .i64 s.2,.slice 1 0 s.3.length 1,.int .i64 (W (s.4+1)),.int .i64 3,.int .i64 a,.int .u64 (aB s.3 a),.int .u64 (aB s.3 a),.bool false]),some (.ints (some .u64) s.3)]else bif ile (↑s.3.length:Int) a then K (.bool false) [some (.cells [.int .i64 s.1,.int .i64 s.2,.slice 1 0 s.3.length 1,.int .i64 (W (s.4+1)),.int .i64 3,.int .i64 a,.int .u64 (aB s.3 a),.int .u64 (aB s.3 a),.bool false]),some (.ints (some .u64) s.3)]else bif ieq (aB s.3 a) x then((0:Int)≤a∧a<(↑s.3.length:Int))∧0+Int.toNat a*(1:Nat)<s.3.length∧K (.bool (ieq (aB s.3 a) x)) [some (.cells [.int .i64 s.1,.int .i64 s.2,.slice 1 0 s.3.length 1,.int .i64 (W (s.4+1)),.int .i64 3,.int .i64 a,.int .u64 (aB s.3 a),.int .u64 y,.bool (ieq (aB s.3 a) x)]),some (.ints (some .u64) (List.set s.3 (0+Int.toNat a*1) y))]else K (.bool (ieq (aB s.3 a) x)) [some (.cells [.int .i64 s.1,.int .i64 s.2,.slice 1 0 s.3.length 1,.int .i64 (W (s.4+1)),.int .i64 3,.int .i64 a,.int .u64 (aB s.3 a),.int .u64 y,.bool (ieq (aB s.3 a) x)]),some (.ints (some .u64) s.3)]) (by kernel_rfl) ?_))
 refine⟨⟨rfl,trivial⟩,?_⟩;have hc:IntKind.wrap .i64 (s.c+1)=s.c+1:=cJ (by omega)
 simp only [W,WU,hc,wQ];unfold MS.cased at hK;rw [sD _ _ _ _ _ _ (by cases aT s.xs a x<;>first | exact cC _ _ _ | rfl)]at hK
 unfold aT at hK;refine aL (fun e1=>?_) (fun e1=>aL (fun e2=>?_) (fun e2=>?_))
 ·rw [bJ,dT']at e1;rw [gB (by omega)]at hK
  rw [iQ (by omega)]at hK⊢;exact hK
 ·rw [bX,dT']at e2;rw [gB (by omega)]at hK
  rw [iQ (by omega)]at hK⊢;exact hK
 ·rw [bJ,dF']at e1;rw [bX,dF']at e2;rw [lY.2 (by omega),vF (by omega)]at hK
  simp only [Bool.true_and,cond_true]at hK;refine aL (fun e3=>⟨by omega,by omega,?_⟩) (fun e3=>?_)
  ·rw [e3]at hK⊢;exact hK
  ·rw [e3]at hK⊢;exact hK
def addS:aG Ob:=fun args h=>match args,oH h with
 | [.ptr 0 0,.int .i64 a,.int .u64 x],some (l,s)=>some (.pre (l=s.xs.length∧(0≤s.c∧s.c≤4611686018427387904)) (.ret (.int .u64 (aB s.xs a)) (memH (s.added a x))))
 | _,_=>none
theorem Z2:aG.ok E2.I Tryz.prog 215 addS:=by
 intro args h o ho K hK;unfold addS at ho;split at ho<;>cases ho
 rename_i a x l s hm;obtain⟨⟨hl,hp⟩,hK⟩:=hK;have hh:=jN hm hl;subst hh;have hK:K (.int .u64 (aB s.xs a)) (memH (s.added a x)):=hK;refine aFQ (aE (E:=E2) Tryz.checked.mixed (L:=fun _ _=>none) (n:=10) (aN (q:=(lE' s.3∧True)∧bif ilt a 0 then K (.int .u64 (aB s.3 a)) [some (.cells [.int .i64 s.1,.int .i64 s.2,.slice 1 0 s.3.length 1,.int .i64 (W (s.4+1)),.int .i64 4,.int .i64 a,.int .u64 (aB s.3 a),.int .u64 (aB s.3 a),.bool false]),some (.ints (some .u64) s.3)]else bif ile (↑s.3.length:Int) a then K (.int .u64 (aB s.3 a)) [some (.cells [.int .i64 s.1,.int .i64 s.2,.slice 1 0 s.3.length 1,.int .i64 (W (s.4+1)),.int .i64 4,.int .i64 a,.int .u64 (aB s.3 a),.int .u64 (aB s.3 a),.bool false]),some (.ints (some .u64) s.3)]else((0:Int)≤a∧a<(↑s.3.length:Int))∧0+Int.toNat a*(1:Nat)<s.3.length∧K (.int .u64 (aB s.3 a)) [some (.cells [.int .i64 s.1,.int .i64 s.2,.slice 1 0 s.3.length 1,.int .i64 (W (s.4+1)),.int .i64 4,.int .i64 a,.int .u64 (aB s.3 a),.int .u64 (WU (aB s.3 a+x)),.bool true]),some (.ints (some .u64) (List.set s.3 (0+Int.toNat a*1) (WU (aB s.3 a+x))))]) (by kernel_rfl) ?_))
 refine⟨⟨rfl,trivial⟩,?_⟩;have hc:IntKind.wrap .i64 (s.c+1)=s.c+1:=cJ (by omega)
 simp only [W,WU,hc,wQ];unfold MS.added at hK;rw [sD _ _ _ _ _ _ (cC _ _ _)]at hK;refine aL (fun e1=>?_) (fun e1=>aL (fun e2=>?_) (fun e2=>?_))
 ·rw [bJ,dT']at e1;rw [gB (by omega),oM (by omega)]at hK
  rw [iQ (by omega)]at hK⊢;exact hK
 ·rw [bX,dT']at e2;rw [gB (by omega),oM (by omega)]at hK
  rw [iQ (by omega)]at hK⊢;exact hK
 ·rw [bJ,dF']at e1;rw [bX,dF']at e2;refine⟨by omega,by omega,?_⟩
  rw [lY.2 (by omega),vF (by omega)]at hK
  exact hK
noncomputable def E3:=(((E2.addS 93 loadS XO).addS 44 storeS S5).addS 99 casS aAp).addS 215 addS Z2
def aQ(t n me:Int):Int:=if t<1 then 1 else 1+Int.tdiv (me*n) t
theorem YM{x t:Int}(h:0≤x)(ht:1≤t):0≤Int.tdiv x t∧Int.tdiv x t≤x:=by
 rw [Int.tdiv_eq_ediv_of_nonneg h];exact⟨Int.ediv_nonneg h (by omega),Int.ediv_le_self t h⟩
def first0S:aG Ob:=fun args h=>match args,h with
 | [.ptr 0 0],some (.cells (.int .i64 t:: .int .i64 n:: .int .i64 me::tl))::rest=>some (.pre ((0≤me∧me≤100000)∧(0≤n∧n≤100000)) (.ret (.int .i64 (aQ t n me)) (some (.cells (.int .i64 t:: .int .i64 n:: .int .i64 me::tl))::rest)))
 | _,_=>none
theorem MF:aG.ok E3.I Tryz.prog 144 first0S:=by
 intro args h o ho K hK;unfold first0S at ho;split at ho<;>cases ho
 rename_i t n me tl rest;obtain⟨hp,hK⟩:=hK;have hK:K (.int .i64 (aQ t n me)) (some (.cells (.int .i64 t:: .int .i64 n:: .int .i64 me::tl))::rest):=hK;refine(aE (E:=E3) Tryz.checked.mixed (L:=fun _ _=>none) (n:=10) (aN (q:=bif ilt t 1 then K (.int .i64 1) (some (.cells (.int .i64 t:: .int .i64 n:: .int .i64 me::tl))::rest)else t≠(0:Int)∧K (.int .i64 (W (1+W (Int.tdiv (W (me*n)) t)))) (some (.cells (.int .i64 t:: .int .i64 n:: .int .i64 me::tl))::rest)) (by kernel_rfl) ?_))
 obtain⟨⟨h1,h2⟩,h3,h4⟩:=hp;have hm:0≤me*n∧me*n≤100000*100000:=⟨Int.mul_nonneg h1 h3,Int.mul_le_mul h2 h4 h3 (by omega)⟩
 refine aL (fun e=>?_) (fun e=>?_)
 ·rw [bJ,dT']at e;unfold aQ at hK;rw [if_pos e]at hK;exact hK
 ·rw [bJ,dF']at e;refine⟨by omega,?_⟩
  unfold aQ at hK;rw [if_neg e]at hK;have:=YM (x:=me*n) (t:=t) hm.1 (by omega)
  simp(disch:=omega) only [W,cJ]
  exact hK
def HG:bO Ob:=fun args h=>match args,h with
 | [.ptr 0 0],some (.cells (.int .i64 t:: .int .i64 n:: .int .i64 me::tl))::rest=>some (((0≤me∧me≤100000)∧(0≤n∧n≤100000)),.int .i64 (aQ t n me))
 | _,_=>none
theorem QN:aG.ok E3.I Tryz.prog 144 HG.spec:=by
 intro args h o ho;unfold bO.spec at ho;split at ho
 case h_2=>cases ho
 rename_i p v hv;unfold HG at hv;split at hv
 case h_2=>cases hv
 simp only [sI',pI']at hv;obtain⟨rfl,rfl⟩:=hv;exact MF _ _ o ho
def lifeNewS:aG Ob:=fun args h=>match args,h with
 | [.agg [.int .i64 t,.int .i64 n],.int .i64 a],[]=>some (.pre (True) (.ret (.ptr 0 0) ([some (.cells [.int .i64 t,.int .i64 n,.int .i64 0,.int .i64 (bif bK n a then a else 1),.int .i64 n,.int .u64 0,.bool false])])))
 | _,_=>none
theorem HY:aG.ok E3.I Tryz.prog 143 lifeNewS:=by
 intro args h o ho K hK;unfold lifeNewS at ho;split at ho<;>cases ho
 rename_i t n a;obtain⟨hp,hK⟩:=hK;have hK:K (.ptr 0 0) ([some (.cells [.int .i64 t,.int .i64 n,.int .i64 0,.int .i64 (bif bK n a then a else 1),.int .i64 n,.int .u64 0,.bool false])]):=hK;refine aFQ (aE (E:=E3) Tryz.checked.mixed (L:=fun _ _=>none) (n:=10) (aN (q:=True∧bif !bK n a then K (.ptr 0 0) [some (.cells [.int .i64 t,.int .i64 n,.int .i64 0,.int .i64 1,.int .i64 n,.int .u64 0,.bool false])]else K (.ptr 0 0) [some (.cells [.int .i64 t,.int .i64 n,.int .i64 0,.int .i64 a,.int .i64 n,.int .u64 0,.bool false])]) (by kernel_rfl) ?_))
 refine⟨trivial,aL (fun e=>?_) (fun e=>?_)⟩
 ·have e':bK n a=false:=by simpa using e
  rw [e']at hK;exact hK
 ·have e':bK n a=true:=by simpa using e
  rw [e']at hK;exact hK
noncomputable def E4a:=E3.addS 143 lifeNewS HY
noncomputable def E4:=E4a.addR 144 HG QN
noncomputable def LL:FuncId→Nat→Option (p7 Ob):=fun _ _=>some (.rounds 12)
noncomputable def E5:=E4
abbrev iI'(l:List Int):Option (aM Ob):=some (.ints (some .i64) l)
abbrev cE'(l:List AVal):Option (aM Ob):=some (.cells l)
theorem cM'{E:qR Ob Tryz.prog}{f:FuncId}{args:List AVal}{h:aD Ob}{K:AVal→aD Ob→Prop}{q:Prop}(e:JK E LL 10 f args h K=q)(hq:q):aC E.I Tryz.prog f args h K:=aE (E:=E) Tryz.checked.mixed (L:=LL) (n:=10) (aN e hq)
abbrev cT':=aC (A:=Ob) (obI tbl) Tryz.prog
abbrev sT':=aG.ok (A:=Ob) (obI tbl) Tryz.prog
def cloneS:aG Ob:=fun args h=>match args,h with
 | [.slice 0 0 n 1],[some (.ints (some .i64) xs)]=>some (.pre (n=xs.length∧n≤4294967296) (.ret (.slice 1 0 xs.length 1) [some (.ints (some .i64) xs),some (.ints (some .i64) xs)]))
 | _,_=>none
theorem PR:aG.ok E5.I Tryz.prog 148 cloneS:=by
 intro args h o ho K hK;unfold cloneS at ho;split at ho<;>cases ho
 rename_i n xs;obtain⟨⟨rfl,hp⟩,hK⟩:=hK;have hK:K (.slice 1 0 xs.length 1) [some (.ints (some .i64) xs),some (.ints (some .i64) xs)]:=hK;refine aFQ (aGg (cs:=[(.slot 0,.ints (some .i64))]) (cM' (E:=E5) (q:= ∀(b:Bool),(b=true→xs.length=0)→bif b then K (.slice 1 0 0 1) [some (.ints (some .i64) xs),some (.ints (some .i64) [])]else(0+xs.length≤xs.length∧xs.length≤(4294967296:Nat))∧K (.slice 1 0 xs.length 1) [some (.ints (some .i64) xs),some (.ints (some .i64) (List.take xs.length (List.drop 0 xs)))]) (by kernel_rfl) ?_))
 intro b hb;refine aL (fun e=>?_) (fun e=>⟨⟨by omega,by omega⟩,?_⟩)
 ·have h0:=List.length_eq_zero_iff.1 (hb e);subst h0;exact hK
 ·simpa using hK
def nG(xs ys:List Int):Bool:=decide (xs=ys)
theorem qN{xs ys:List Int} :nG xs ys=true↔xs=ys:=by unfold nG;exact decide_eq_true_iff
structure okI (xs ys:List Int) (i:Nat):Prop where
 h1:i≤xs.length
 h2:xs.length=ys.length
 h3:xs.take i=ys.take i
def HI(xs ys:List Int):Hint Ob:= {X:=Nat,st:=fun i=>([.slice 0 0 xs.length 1,.slice 1 0 ys.length 1,.O,.O,.O,.int .i64 (i:Int)]++List.replicate 20 .O,[some (.ints (some .i64) xs),some (.ints (some .i64) ys)]),ok:=okI xs ys,mu:=fun i=>xs.length - i,keep:=[0,1,5] }
def intsS0:aG Ob:=fun args h=>match args,h with
 | [.slice 0 0 n 1,.slice 1 0 m 1],[some (.ints (some .i64) xs),some (.ints (some .i64) ys)]=>some (.pre ((n=xs.length∧m=ys.length)∧n≤4294967296) (.ret (.bool (nG xs ys)) [some (.ints (some .i64) xs),some (.ints (some .i64) ys)]))
 | _,_=>none
theorem RE:aG.ok E5.I Tryz.prog 33 intsS0:=by
 intro args h o ho K hK;unfold intsS0 at ho;split at ho<;>cases ho
 rename_i n m xs ys;obtain⟨⟨⟨rfl,rfl⟩,hp⟩,hK⟩:=hK;have hK:K (.bool (nG xs ys)) [some (.ints (some .i64) xs),some (.ints (some .i64) ys)]:=hK;refine(aE (E:=E5) Tryz.checked.mixed (L:=fun _ _=>some (.states (HI xs ys))) (n:=10) (aN (q:=bif !ieq (↑xs.length:Int) (↑ys.length:Int)then K (.bool false) [some (.ints (some .i64) xs),some (.ints (some .i64) ys)]else okSt (HI xs ys) (Hint.ok (HI xs ys)) (.slice 0 0 xs.length 1::.slice 1 0 ys.length 1::.O::.O::.O::.int .i64 0::(tO' 20 [])) [some (.ints (some .i64) xs),some (.ints (some .i64) ys)]∧ ∀(x:Nat),okI xs ys x→bif ilt (↑x:Int) (↑xs.length:Int)then((0:Int)≤(↑x:Int)∧(↑x:Int)<(↑xs.length:Int))∧0+Int.toNat (↑x:Int)*(1:Nat)<xs.length∧((0:Int)≤(↑x:Int)∧(↑x:Int)<(↑ys.length:Int))∧0+Int.toNat (↑x:Int)*(1:Nat)<ys.length∧bif !ieq (List.getD xs (0+Int.toNat (↑x:Int)*1) 0) (List.getD ys (0+Int.toNat (↑x:Int)*1) 0)then K (.bool false) [some (.ints (some .i64) xs),some (.ints (some .i64) ys)]else okSt (HI xs ys) (fun x'=>Hint.ok (HI xs ys) x'∧Hint.mu (HI xs ys) x'<Hint.mu (HI xs ys) x) (.slice 0 0 xs.length 1::.slice 1 0 ys.length 1::.O::.O::.O::.int .i64 (W ((↑x:Int)+1))::(tO' 20 [])) [some (.ints (some .i64) xs),some (.ints (some .i64) ys)]else K (.bool true) [some (.ints (some .i64) xs),some (.ints (some .i64) ys)]) (by kernel_rfl) ?_))
 have hS:nG xs ys=decide (xs=ys):=rfl;refine aL (fun e=>?_) (fun e=>⟨aK (H:=HI xs ys) (0:Nat) rfl ⟨Nat.zero_le _,?_,rfl⟩,?_⟩)
 ·rw [bI]at e;have:xs≠ys:=by rintro rfl;simp at e
  rw [hS,decide_eq_false this]at hK;exact hK
 ·rw [bI]at e;simp at e;omega
 ·rintro i ⟨h1,h2,h3⟩;refine aL (fun e1=>?_) (fun e1=>?_)
  ·rw [bJ,dT']at e1;have hi:i<xs.length:=by omega
   have e2:0+(i:Int).toNat *1=i:=by omega
   rw [e2];refine⟨by omega,hi,by omega,by omega,aL (fun e3=>?_) (fun e3=>?_)⟩
   ·rw [bI]at e3;have:xs≠ys:=by rintro rfl;simp at e3
    rw [hS,decide_eq_false this]at hK;exact hK
   ·rw [bI]at e3;have e3:xs.getD i 0=ys.getD i 0:=by simpa using e3
    have e4:IntKind.wrap .i64 ((i:Int)+1)=((i+1:Nat):Int):=by rw [cJ (by omega)];rfl
    refine aK (H:=HI xs ys) (i+1:Nat) (by simp only [W,e4]<;>rfl) ⟨⟨hi,h2,?_⟩,by show xs.length - (i+1)<xs.length - i;omega⟩
    have hj:i<ys.length:=by omega
    rw [gD',gE' hi,gD',gE' hj]at e3;rw [List.take_succ_eq_append_getElem hi,List.take_succ_eq_append_getElem hj,h3];have e5:xs[i]=ys[i]:=by simpa using e3
    rw [e5]
  ·rw [bJ,dF']at e1
   have:xs=ys:=by
    rw [List.take_of_length_le (by omega),List.take_of_length_le (by omega)]at h3;exact h3
   rw [hS,decide_eq_true this]at hK;exact hK
def RF:bO Ob:=fun args h=>match args,h with
 | [.slice 0 0 n 1,.slice 1 0 m 1],[some (.ints (some .i64) xs),some (.ints (some .i64) ys)]=>some ((n=xs.length∧m=ys.length)∧n≤4294967296,.bool (nG xs ys))
 | _,_=>none
theorem XG:aG.ok E5.I Tryz.prog 33 RF.spec:=by
 intro args h o ho;unfold bO.spec at ho;split at ho
 case h_2=>cases ho
 rename_i p v hv;unfold RF at hv;split at hv
 case h_2=>cases hv
 simp only [sI',pI']at hv;obtain⟨rfl,rfl⟩:=hv;exact RE _ _ o ho
noncomputable def E6:=(E5.addS 148 cloneS PR).addR 33 RF XG
def storeNewS:aG Ob:=fun args h=>match args,h with
 | [.agg [.int .i64 t,.int .i64 n],.int .i64 me],[]=>some (.ret (.ptr 0 0) [some (.cells [.int .i64 t,.int .i64 n,.int .i64 me,.int .i64 0,.raw (.slice none 0 0)])])
 | _,_=>none
theorem FY:aG.ok E6.I Tryz.prog 19 storeNewS:=by
 intro args h o ho K hK;unfold storeNewS at ho;split at ho<;>cases ho
 rename_i t n me;have hK:K (.ptr 0 0) [some (.cells [.int .i64 t,.int .i64 n,.int .i64 me,.int .i64 0,.raw (.slice none 0 0)])]:=hK;exact aFQ (cM' (E:=E6) (by kernel_rfl) hK)
def aO(sp:Int)(xs:List Int):List Int:=bif ieq sp 0 then xs else sp::xs
def heldS:aG Ob:=fun args h=>match args,h with
 | [.ptr 0 0],[some (.cells [.int .i64 t,.int .i64 n,.int .i64 me,.int .i64 sp,.slice 1 0 k 1]),some (.ints (some .i64) xs)]=>some (.pre (k=xs.length∧k≤1000000) (.ret (.slice 2 0 (aO sp xs).length 1) [some (.cells [.int .i64 t,.int .i64 n,.int .i64 me,.int .i64 sp,.slice 1 0 k 1]),some (.ints (some .i64) xs),some (.ints (some .i64) (aO sp xs))]))
 | _,_=>none
theorem JV:aG.ok E6.I Tryz.prog 89 heldS:=by
 intro args h o ho K hK;unfold heldS at ho;split at ho<;>cases ho
 rename_i t n me sp k xs;obtain⟨⟨rfl,hp⟩,hK⟩:=hK;have hK:K (.slice 2 0 (aO sp xs).length 1) [some (.cells [.int .i64 t,.int .i64 n,.int .i64 me,.int .i64 sp,.slice 1 0 xs.length 1]),some (.ints (some .i64) xs),some (.ints (some .i64) (aO sp xs))]:=hK;refine aFQ (aGg (cs:=[(.slot 0,.ints (some .i64))]) (cM' (E:=E6) (q:=bif ieq sp 0 then(lE' xs∧xs.length≤(4294967296:Nat))∧K (.slice 2 0 xs.length 1) [some (.cells [.int .i64 t,.int .i64 n,.int .i64 me,.int .i64 sp,.slice 1 0 xs.length 1]),some (.ints (some .i64) xs),some (.ints (some .i64) xs)]else(0+xs.length≤xs.length∧1+xs.length≤(4294967296:Nat))∧K (.slice 2 0 (1+xs.length) 1) [some (.cells [.int .i64 t,.int .i64 n,.int .i64 me,.int .i64 sp,.slice 1 0 xs.length 1]),some (.ints (some .i64) xs),some (.ints (some .i64) ([sp]++List.take xs.length (List.drop 0 xs)))]) (by kernel_rfl) ?_))
 unfold aO at hK;refine aL (fun e=>⟨⟨rfl,by omega⟩,?_⟩) (fun e=>⟨⟨by omega,by omega⟩,?_⟩)
 ·rw [e]at hK;exact hK
 ·rw [e]at hK;simp only [cond_false]at hK;have e1:1+xs.length=(sp::xs).length :=by simp;omega
  have e2: [sp]++List.take xs.length (List.drop 0 xs)=sp::xs:=by simp
  rw [e1,e2];exact hK
def fullS0:aG Ob:=fun args h=>match args,h with
 | [.ptr 0 0],some (.cells [.int .i64 t,.int .i64 n,.int .i64 me,.int .i64 sp,.slice 1 0 k 1])::rest=>some (.pre (0≤t∧t≤100000) (.ret (.bool (ile (4*t) (k:Int))) (some (.cells [.int .i64 t,.int .i64 n,.int .i64 me,.int .i64 sp,.slice 1 0 k 1])::rest)))
 | _,_=>none
theorem QX:aG.ok E6.I Tryz.prog 194 fullS0:=by
 intro args h o ho K hK;unfold fullS0 at ho;split at ho<;>cases ho
 rename_i t n me sp k rest;obtain⟨hp,hK⟩:=hK;have hK:K (.bool (ile (4*t) (k:Int))) (some (.cells [.int .i64 t,.int .i64 n,.int .i64 me,.int .i64 sp,.slice 1 0 k 1])::rest):=hK;refine(cM' (E:=E6) (q:=K (.bool (ile (W (4*t)) (↑k:Int))) (some (.cells [.int .i64 t,.int .i64 n,.int .i64 me,.int .i64 sp,.slice 1 0 k 1])::rest)) (by kernel_rfl) ?_)
 simp(disch:=omega) only [W,cJ]
 exact hK
def QY:bO Ob:=fun args h=>match args,h with
 | [.ptr 0 0],some (.cells [.int .i64 t,.int .i64 n,.int .i64 me,.int .i64 sp,.slice 1 0 k 1])::rest=>some (0≤t∧t≤100000,.bool (ile (4*t) (k:Int)))
 | _,_=>none
theorem WT:aG.ok E6.I Tryz.prog 194 QY.spec:=by
 intro args h o ho;unfold bO.spec at ho;split at ho
 case h_2=>cases ho
 rename_i p v hv;unfold QY at hv;split at hv
 case h_2=>cases hv
 simp only [sI',pI']at hv;obtain⟨rfl,rfl⟩:=hv;exact QX _ _ o ho
noncomputable def E7:=((E6.addS 19 storeNewS FY).addS 89 heldS JV).addR 194 QY WT
def eR(s:Int):List Int:=bif ieq s 1||ieq s 2 then [1,2,3]else bif ieq s 3||ieq s 4 then [4,5]else []
def kindsS:aG Ob:=fun args h=>match args,h with
 | [.int .i64 s],[]=>some (.ret (.slice 0 0 (eR s).length 1) [some (.ints (some .i64) (eR s))])
 | _,_=>none
theorem RJ:aG.ok E7.I Tryz.prog 184 kindsS:=by
 intro args h o ho K hK;unfold kindsS at ho;split at ho<;>cases ho
 rename_i s;have hK:K (.slice 0 0 (eR s).length 1) [some (.ints (some .i64) (eR s))]:=hK;refine aFQ (aGg (cs:=[(.slot 0,.ints (some .i64))]) (cM' (E:=E7) (q:=bif ieq s 1 then K (.slice 0 0 3 1) [some (.ints (some .i64) [1,2,3])]else bif ieq s 2 then K (.slice 0 0 3 1) [some (.ints (some .i64) [1,2,3])]else bif ieq s 3 then K (.slice 0 0 2 1) [some (.ints (some .i64) [4,5])]else bif ieq s 4 then K (.slice 0 0 2 1) [some (.ints (some .i64) [4,5])]else K (.slice 0 0 0 1) [some (.ints (some .i64) [])]) (by kernel_rfl) ?_))
 unfold eR at hK;cases e1:ieq s 1<;>cases e2:ieq s 2<;>cases e3:ieq s 3<;>cases e4:ieq s 4<;>simp only [e1,e2,e3,e4,Bool.or_true,Bool.or_false,Bool.true_or,Bool.false_or,cond_true,cond_false]at hK⊢ <;>exact hK
noncomputable def E8:=E7.addS 184 kindsS RJ
theorem bE(a:Int):ieq a a=true:=by rw [bI];simp
def hasB(xs:List Int)(n:Int):Bool:=decide (n∈xs)
theorem gX{xs:List Int}{n:Int} :hasB xs n=true↔n∈xs:=by unfold hasB;exact decide_eq_true_iff
structure okC (xs:List Int) (n:Int) (i:Nat):Prop where
 h1:i≤xs.length
 h2:n∉xs.take i
def HC(xs:List Int)(n:Int):Hint Ob:= {X:=Nat,st:=fun i=>([.slice 0 0 xs.length 1,.int .i64 n,.O,.O,.O,.O,.O,.int .i64 (xs.length:Int),.int .i64 (i:Int)]++List.replicate 10 .O,[some (.ints (some .i64) xs)]),ok:=okC xs n,mu:=fun i=>xs.length - i,keep:=[0,1,7,8] }
def hasS0:aG Ob:=fun args h=>match args,h with
 | [.slice 0 0 k 1,.int .i64 n],[some (.ints (some .i64) xs)]=>some (.pre (k=xs.length∧k≤4294967296) (.ret (.bool (hasB xs n)) [some (.ints (some .i64) xs)]))
 | _,_=>none
theorem WW:aG.ok E8.I Tryz.prog 124 hasS0:=by
 intro args h o ho K hK;unfold hasS0 at ho;split at ho<;>cases ho
 rename_i k n xs;obtain⟨⟨rfl,hp⟩,hK⟩:=hK;have hK:K (.bool (hasB xs n)) [some (.ints (some .i64) xs)]:=hK;refine(aE (E:=E8) Tryz.checked.mixed (L:=fun _ _=>some (.states (HC xs n))) (n:=10) (aN (q:=okSt (HC xs n) (Hint.ok (HC xs n)) [.slice 0 0 xs.length 1,.int .i64 n,.O,.O,.O,.O,.O,.int .i64 (↑xs.length:Int),.int .i64 0,.O,.O,.O,.O,.O,.O,.O,.O,.O,.O] [some (.ints (some .i64) xs)]∧ ∀(x:Nat),okC xs n x→bif ilt (↑x:Int) (↑xs.length:Int)then((0:Int)≤(↑x:Int)∧(↑x:Int)<(↑xs.length:Int))∧0+Int.toNat (↑x:Int)*(1:Nat)<xs.length∧bif ieq n (List.getD xs (0+Int.toNat (↑x:Int)*1) 0)then K (.bool (ile 0 (↑x:Int))) [some (.ints (some .i64) xs)]else okSt (HC xs n) (fun x'=>Hint.ok (HC xs n) x'∧Hint.mu (HC xs n) x'<Hint.mu (HC xs n) x) [.slice 0 0 xs.length 1,.int .i64 n,.O,.O,.O,.O,.O,.int .i64 (↑xs.length:Int),.int .i64 (W ((↑x:Int)+1)),.O,.O,.O,.O,.O,.O,.O,.O,.O,.O] [some (.ints (some .i64) xs)]else K (.bool false) [some (.ints (some .i64) xs)]) (by kernel_rfl) ?_))
 have hS:hasB xs n=decide (n∈xs):=rfl;refine⟨aK (H:=HC xs n) (0:Nat) rfl ⟨Nat.zero_le _,by simp⟩,?_⟩
 rintro i ⟨h1,h2⟩;refine aL (fun e1=>?_) (fun e1=>?_)
 ·rw [bJ,dT']at e1;have hi:i<xs.length:=by omega
  have e2:0+(i:Int).toNat *1=i:=by omega
  rw [e2];have e4:IntKind.wrap .i64 ((i:Int)+1)=((i+1:Nat):Int):=by rw [cJ (by omega)];rfl
  have hg:xs.getD i 0=xs[i]:=by rw [gD',gE' hi];rfl
  refine⟨by omega,hi,aL (fun e3=>?_) (fun e3=>?_)⟩
  ·rw [bI,hg]at e3;have e3:n=xs[i]:=by simpa using e3
   have hm:n∈xs:=by rw [e3];exact List.getElem_mem hi
   have h0:ile 0 (i:Int)=true:=by rw [bX,dT'];omega
   rw [hS,decide_eq_true hm]at hK
   first | (rw [h0];exact hK) | exact hK
  ·rw [bI,hg]at e3;have e3: ¬n=xs[i]:=by simpa using e3
   refine aK (H:=HC xs n) (i+1:Nat) (by simp only [W,e4]<;>rfl) ⟨⟨hi,?_⟩,by show xs.length - (i+1)<xs.length - i;omega⟩
   rw [List.take_succ_eq_append_getElem hi];intro hm;rcases List.mem_append.1 hm with h | h
   ·exact h2 h
   ·exact e3 (by simpa using h)
 ·rw [bJ,dF']at e1;rw [List.take_of_length_le (by omega)]at h2
  rw [hS,decide_eq_false h2]at hK;exact hK
def WY:bO Ob:=fun args h=>match args,h with
 | [.slice 0 0 k 1,.int .i64 n],[some (.ints (some .i64) xs)]=>some (k=xs.length∧k≤4294967296,.bool (hasB xs n))
 | _,_=>none
theorem Q1:aG.ok E8.I Tryz.prog 124 WY.spec:=by
 intro args h o ho;unfold bO.spec at ho;split at ho
 case h_2=>cases ho
 rename_i p v hv;unfold WY at hv;split at hv
 case h_2=>cases hv
 simp only [sI',pI']at hv;obtain⟨rfl,rfl⟩:=hv;exact WW _ _ o ho
noncomputable def E9:=E8.addR 124 WY Q1
theorem HR(s:Int):(eR s).length ≤3:=by
 unfold eR;cases (ieq s 1||ieq s 2)<;>cases (ieq s 3||ieq s 4)<;>simp
def a8(s k y:Int):Bool:=hasB (eR s) k&&(ile 0 y&&ile y (bif ieq k 5 then 0 else 999))
def IG:bO Ob:=fun args h=>match args,h with
 | [.int .i64 s,.agg [.int .i64 k,.int .i64 y]],[]=>some (True,.bool (a8 s k y))
 | _,_=>none
theorem ST:aG.ok E9.I Tryz.prog 126 IG.spec:=by
 intro args h o ho K hK;unfold bO.spec at ho;split at ho
 case h_2=>cases ho
 rename_i p v hv;unfold IG at hv;split at hv
 case h_2=>cases hv
 rename_i s k y;simp only [sI',pI']at hv;obtain⟨rfl,rfl⟩:=hv;simp only [sI']at ho;subst ho;obtain⟨_,hK⟩:=hK;have hK:K (.bool (a8 s k y)) []:=hK;refine aFQ (cM' (E:=E9) (q:=bif ieq k 5 then(lE' (eR s)∧List.length (eR s)≤(4294967296:Nat))∧bif hasB (eR s) k then bif ile 0 y then K (.bool (ile y 0)) []else K (.bool false) []else K (.bool false) []else(lE' (eR s)∧List.length (eR s)≤(4294967296:Nat))∧bif hasB (eR s) k then bif ile 0 y then K (.bool (ile y 999)) []else K (.bool false) []else K (.bool false) []) (by kernel_rfl) ?_)
 have hl:=HR s;unfold a8 at hK
 refine aL (fun e1=>⟨⟨rfl,by omega⟩,aL (fun e2=>aL (fun e3=>?_) (fun e3=>?_)) (fun e2=>?_)⟩) (fun e1=>⟨⟨rfl,by omega⟩,aL (fun e2=>aL (fun e3=>?_) (fun e3=>?_)) (fun e2=>?_)⟩)<;>
  (simp only [e1,e2,cond_true,cond_false,Bool.true_and,Bool.false_and]at hK<;>first | (simp only [e3,Bool.true_and,Bool.false_and]at hK;exact hK) | exact hK)
noncomputable def E10:=E9.addR 126 IG ST
def aA(x a w:Int):Int:=x / 2^a.toNat%2^w.toNat
def bitI(b:Bool):Int:=bif b then 1 else 0
def aH(n w:Int):Bool:=ile 0 n&&ilt n (2^w.toNat)
theorem toNat_ofInt(n:Nat)(x:Int):((BitVec.ofInt n x).toNat :Int)=x%2^n:=by
 rw [BitVec.toNat_ofInt];have h:(0:Int)<(2^n:Nat):=by exact_mod_cast Nat.two_pow_pos n
 have h2:0≤x%((2^n:Nat):Int):=Int.emod_nonneg _ (by omega)
 rw [Int.toNat_of_nonneg h2]
 push_cast
 rfl
theorem jH(w:Nat):(0:Int)<2^w:=by
 have:((2^w:Nat):Int)=2^w:=by push_cast;rfl
 have h:0<2^w:=Nat.two_pow_pos w;omega
theorem TG{w n:Nat}(h:w≤n):(2:Int)^w≤2^n:=by
 have a:((2^w:Nat):Int)=2^w:=by push_cast;rfl
 have b:((2^n:Nat):Int)=2^n:=by push_cast;rfl
 have h:2^w≤2^n:=Nat.pow_le_pow_right (by omega) h
 omega
theorem YR{w n:Nat}(h:w≤n):(2:Int)^w∣2^n:=by
 have a:((2^w:Nat):Int)=2^w:=by push_cast;rfl
 have b:((2^n:Nat):Int)=2^n:=by push_cast;rfl
 rw [←a,←b];exact Int.natCast_dvd_natCast.2 (Nat.pow_dvd_pow 2 h)
theorem jR{n w:Nat}(x:Int)(h:w<n):((BitVec.ofInt n x&&&BitVec.ofInt n (2^w - 1)).toNat :Int)=x%2^w:=by
 have hp:=jH w;have h3:(2:Int)^w≤2^n:=TG (by omega)
 have e1:(BitVec.ofInt n (2^w - 1)).toNat =2^w - 1:=by
  have:((BitVec.ofInt n (2^w - 1)).toNat :Int)=((2^w - 1:Nat):Int):=by
   rw [toNat_ofInt,Int.emod_eq_of_lt (by omega) (by omega)]
   have a:((2^w:Nat):Int)=2^w:=by push_cast;rfl
   have:1≤2^w:=Nat.one_le_two_pow;omega
  exact_mod_cast this
 rw [BitVec.toNat_and,e1,Nat.and_two_pow_sub_one_eq_mod]
 push_cast
 rw [toNat_ofInt];exact Int.emod_emod_of_dvd _ (YR (by omega))
theorem wR{n a:Nat}{x y:Int}(hx:0≤x∧x<2^a)(hy:0≤y)(h:y*2^a+x<2^n):
 ((BitVec.ofInt n x|||BitVec.ofInt n (y*2^a)).toNat :Int)=x+y*2^a:=by
 have hp:=jH a;have hya:0≤y*2^a:=Int.mul_nonneg hy (by omega)
 obtain⟨u,rfl⟩:=Int.eq_ofNat_of_zero_le hx.1;obtain⟨v,rfl⟩:=Int.eq_ofNat_of_zero_le hy
 have e1:(BitVec.ofInt n (u:Int)).toNat =u:=by
  have:((BitVec.ofInt n (u:Int)).toNat :Int)=(u:Int):=by
   rw [toNat_ofInt,Int.emod_eq_of_lt (by omega) (by omega)]
  exact_mod_cast this
 have e2:(BitVec.ofInt n ((v:Int)*2^a)).toNat =v*2^a:=by
  have:((BitVec.ofInt n ((v:Int)*2^a)).toNat :Int)=((v*2^a:Nat):Int):=by
   rw [toNat_ofInt,Int.emod_eq_of_lt (by omega) (by omega)];push_cast;rfl
  exact_mod_cast this
 have hu:u<2^a:=by
  have b:((2^a:Nat):Int)=2^a:=by push_cast;rfl
  omega
 rw [BitVec.toNat_or,e1,e2]
 have:u|||v*2^a=u+v*2^a:=by
  have:=Nat.shiftLeft_add_eq_or_of_lt hu v;rw [Nat.shiftLeft_eq]at this;rw [Nat.or_comm,←this];omega
 rw [this];push_cast;rfl
theorem i4{x:Int}(h:0≤x∧x≤18446744073709551615):IntKind.wrap IntKind.u64 x=x:=IntWalk.u64_in x h
theorem B5{w n:Nat}(h:w≤n){b:Int}(e:b=2^n):(2:Int)^w≤b:=by rw [e];exact TG h
def aAv:bO Ob:=fun args h=>match args,h with
 | [.int .u64 x,.int .i64 a,.int .i64 w],[]=>some ((0≤a∧a≤63)∧(0≤w∧w≤62),.int .i64 (aA x a w))
 | _,_=>none
theorem aAw:aG.ok E10.I Tryz.prog 182 aAv.spec:=by
 intro args h o ho K hK;unfold bO.spec at ho;split at ho
 case h_2=>cases ho
 rename_i p v hv;unfold aAv at hv;split at hv
 case h_2=>cases hv
 rename_i x a w;simp only [sI',pI']at hv;obtain⟨rfl,rfl⟩:=hv;simp only [sI']at ho;subst ho;obtain⟨⟨ha,hw⟩,hK⟩:=hK;have hK:K (.int .i64 (aA x a w)) []:=hK;refine aFQ (aE (E:=E10) Tryz.checked.mixed (L:=fun _ _=>none) (n:=10) (aN (q:=(0:Int)≤a∧(0:Int)≤w∧K (.int .i64 (W (WU (↑(BitVec.toNat (BitVec.ofInt (IntKind.bits .u64) (Int.fdiv x (2^min (Int.toNat a) (IntKind.bits .u64)))&&&BitVec.ofInt (IntKind.bits .u64) (WU (WU (1*2^min (Int.toNat w) (IntKind.bits .u64)) - 1)))):Int)))) []) (by kernel_rfl) ?_))
 refine⟨by omega,by omega,?_⟩
 refine cast (congrArg (fun z=>K (AVal.int .i64 z) []) ?_) hK;show aA x a w=_;have hb:IntKind.bits .u64 =64:=rfl;rw [hb];have h1:min a.toNat 64=a.toNat:=by omega
 have h2:min w.toNat 64=w.toNat:=by omega
 have h3:(2:Int)^w.toNat≤4611686018427387904:=B5 (n:=62) (by omega) (by decide)
 have h4:=jH w.toNat;have h5:=jH a.toNat;rw [h1,h2,Int.fdiv_eq_ediv_of_nonneg _ (by omega)]
 simp only [WU,W,Int.one_mul];rw [i4 (x:=2^w.toNat) (by omega),i4 (x:=2^w.toNat - 1) (by omega),jR _ (by omega)]
 have h6:=Int.emod_nonneg (x / 2^a.toNat) (b:=2^w.toNat) (by omega)
 have h7:=Int.emod_lt_of_pos (x / 2^a.toNat) (b:=2^w.toNat) (by omega)
 rw [i4 (by omega),cJ (by omega)]
 rfl
def aAn:bO Ob:=fun args h=>match args,h with
 | [.bool b],[]=>some (True,.int .i64 (bitI b))
 | _,_=>none
theorem aAo:aG.ok E10.I Tryz.prog 224 aAn.spec:=by
 intro args h o ho K hK;unfold bO.spec at ho;split at ho
 case h_2=>cases ho
 rename_i p v hv;unfold aAn at hv;split at hv
 case h_2=>cases hv
 rename_i b;simp only [sI',pI']at hv;obtain⟨rfl,rfl⟩:=hv;simp only [sI']at ho;subst ho;obtain⟨_,hK⟩:=hK;have hK:K (.int .i64 (bitI b)) []:=hK;refine aFQ (aE (E:=E10) Tryz.checked.mixed (L:=fun _ _=>none) (n:=10) (aN (q:=bif b then K (.int .i64 1) []else K (.int .i64 0) []) (by kernel_rfl) ?_))
 cases b<;>exact hK
def aBc:bO Ob:=fun args h=>match args,h with
 | [.agg [.int .i64 n,.int .i64 w]],[]=>some (0≤w∧w≤62,.bool (aH n w))
 | _,_=>none
theorem aBd:aG.ok E10.I Tryz.prog 206 aBc.spec:=by
 intro args h o ho K hK;unfold bO.spec at ho;split at ho
 case h_2=>cases ho
 rename_i p v hv;unfold aBc at hv;split at hv
 case h_2=>cases hv
 rename_i n w;simp only [sI',pI']at hv;obtain⟨rfl,rfl⟩:=hv;simp only [sI']at ho;subst ho;obtain⟨hw,hK⟩:=hK;have hK:K (.bool (aH n w)) []:=hK;refine aFQ (aE (E:=E10) Tryz.checked.mixed (L:=fun _ _=>none) (n:=10) (aN (q:=bif ile 0 n then(0:Int)≤w∧K (.bool (ilt n (W (1*2^min (Int.toNat w) (IntKind.bits .i64))))) []else K (.bool false) []) (by kernel_rfl) ?_))
 unfold aH at hK;have hb:IntKind.bits .i64 =64:=rfl;have h2:min w.toNat 64=w.toNat:=by omega
 have h3:(2:Int)^w.toNat≤4611686018427387904:=B5 (n:=62) (by omega) (by decide)
 have h4:=jH w.toNat;refine aL (fun e=>⟨by omega,?_⟩) (fun e=>?_)
 ·rw [e]at hK;rw [hb,h2,W,Int.one_mul,cJ (by omega)]
  exact hK
 ·rw [e]at hK;exact hK
def aR(v:Int):Int:=(v+1)%262144
def RO:bO Ob:=fun args h=>match args,h with
 | [.agg [.int .i64 k,.int .i64 x,.bool m,.int .i64 c,.int .i64 v],.int .i64 y],[]=>some (0≤v∧v≤1000000,.agg [.int .i64 k,.int .i64 y,.bool m,.int .i64 c,.int .i64 (aR v)])
 | _,_=>none
theorem XM:aG.ok E10.I Tryz.prog 166 RO.spec:=by
 intro args h o ho K hK;unfold bO.spec at ho;split at ho
 case h_2=>cases ho
 rename_i p v hv;unfold RO at hv;split at hv
 case h_2=>cases hv
 rename_i k x m c v y;simp only [sI',pI']at hv;obtain⟨rfl,rfl⟩:=hv;simp only [sI']at ho;subst ho;obtain⟨hw,hK⟩:=hK;have hK:K (.agg [.int .i64 k,.int .i64 y,.bool m,.int .i64 c,.int .i64 (aR v)]) []:=hK;refine aFQ (aE (E:=E10) Tryz.checked.mixed (L:=fun _ _=>none) (n:=10) (aN (q:=K (.agg [.int .i64 k,.int .i64 y,.bool m,.int .i64 c,.int .i64 (W (↑(BitVec.toNat (BitVec.ofInt (IntKind.bits .i64) (W (v+1))&&&BitVec.ofInt (IntKind.bits .i64) 262143)):Int))]) []) (by kernel_rfl) ?_))
 refine cast (congrArg (fun z=>K (.agg [.int .i64 k,.int .i64 y,.bool m,.int .i64 c,.int .i64 z]) []) ?_) hK;show aR v=_;have hb:IntKind.bits .i64 =64:=rfl;simp only [W];rw [hb,cJ (x:=v+1) (by omega)]
 have:=jR (n:=64) (w:=18) (v+1) (by omega)
 have e:(2:Int)^18 - 1=262143:=by decide
 rw [e]at this;rw [this];have e2:(2:Int)^18=262144:=by decide
 rw [e2,cJ (by omega)]
 rfl
noncomputable def E11:=((((E10.addR 182 aAv aAw).addR 224 aAn aAo).addR 206 aBc aBd).addR 166 RO XM)
def aBx:bO Ob:=fun args h=>match args,h with
 | [.int .u64 x],[]=>some (True,.agg [.int .i64 (aA x 0 10),.int .i64 (aA x 10 9),.bool (ieq (aA x 19 1) 1),.int .i64 (aA x 20 5),.int .i64 (aA x 25 18)])
 | _,_=>none
set_option maxRecDepth 100000 in
theorem aBy:aG.ok E11.I Tryz.prog 122 aBx.spec:=by
 intro args h o ho K hK;unfold bO.spec at ho;split at ho
 case h_2=>cases ho
 rename_i p v hv;unfold aBx at hv;split at hv
 case h_2=>cases hv
 rename_i x;simp only [sI',pI']at hv;obtain⟨rfl,rfl⟩:=hv;simp only [sI']at ho;subst ho;obtain⟨_,hK⟩:=hK;refine aFQ (cM' (E:=E11) (q:=((0:Int)≤(0:Int)∧(0:Int)<(↑5:Int))∧((0:Int)≤(0:Int)∧(0:Int)<(↑1:Int))∧1+(1:Nat)≤(4294967296:Nat)∧((0:Int)≤W (0+1)∧W (0+1)<(↑5:Int))∧((0:Int)≤W (0+1)∧W (0+1)<(↑(1+1):Int))∧1+1+(1:Nat)≤(4294967296:Nat)∧((0:Int)≤W (W (0+1)+1)∧W (W (0+1)+1)<(↑5:Int))∧((0:Int)≤W (W (0+1)+1)∧W (W (0+1)+1)<(↑(1+1+1):Int))∧1+1+1+(1:Nat)≤(4294967296:Nat)∧((0:Int)≤W (W (W (0+1)+1)+1)∧W (W (W (0+1)+1)+1)<(↑5:Int))∧((0:Int)≤W (W (W (0+1)+1)+1)∧W (W (W (0+1)+1)+1)<(↑(1+1+1+1):Int))∧1+1+1+1+(1:Nat)≤(4294967296:Nat)∧((0:Int)≤W (W (W (W (0+1)+1)+1)+1)∧W (W (W (W (0+1)+1)+1)+1)<(↑5:Int))∧((0:Int)≤W (W (W (W (0+1)+1)+1)+1)∧W (W (W (W (0+1)+1)+1)+1)<(↑(1+1+1+1+1):Int))∧1+1+1+1+1+(1:Nat)≤(4294967296:Nat)∧((0:Int)≤(0:Int)∧(0:Int)<(↑(1+1+1+1+1+1):Int))∧(((0:Int)≤(0:Int)∧(0:Int)≤(63:Int))∧(0:Int)≤(10:Int)∧(10:Int)≤(62:Int))∧((0:Int)≤(1:Int)∧(1:Int)<(↑(1+1+1+1+1+1):Int))∧(((0:Int)≤W (0+10)∧W (0+10)≤(63:Int))∧(0:Int)≤(9:Int)∧(9:Int)≤(62:Int))∧((0:Int)≤(2:Int)∧(2:Int)<(↑(1+1+1+1+1+1):Int))∧(((0:Int)≤W (W (0+10)+9)∧W (W (0+10)+9)≤(63:Int))∧(0:Int)≤(1:Int)∧(1:Int)≤(62:Int))∧((0:Int)≤(3:Int)∧(3:Int)<(↑(1+1+1+1+1+1):Int))∧(((0:Int)≤W (W (W (0+10)+9)+1)∧W (W (W (0+10)+9)+1)≤(63:Int))∧(0:Int)≤(5:Int)∧(5:Int)≤(62:Int))∧((0:Int)≤(4:Int)∧(4:Int)<(↑(1+1+1+1+1+1):Int))∧(((0:Int)≤W (W (W (W (0+10)+9)+1)+5)∧W (W (W (W (0+10)+9)+1)+5)≤(63:Int))∧(0:Int)≤(18:Int)∧(18:Int)≤(62:Int))∧K (.agg [.int .i64 (aA x 0 10),.int .i64 (aA x (W (0+10)) 9),.bool (ieq (aA x (W (W (0+10)+9)) 1) 1),.int .i64 (aA x (W (W (W (0+10)+9)+1)) 5),.int .i64 (aA x (W (W (W (W (0+10)+9)+1)+5)) 18)]) []) (by kernel_rfl) ?_)
 simp(disch:=omega) only [W,cJ,Int.reduceAdd,Int.zero_add]
 repeat refine⟨by omega,?_⟩
 exact hK
theorem eO{n w:Int} :aH n w=true↔0≤n∧n<2^w.toNat:=by
 unfold aH;simp only [bX,bJ,Bool.and_eq_true,dT']
theorem gK{a:Nat}{x y p s q:Int}(e:p=2^a)(hx:0≤x∧x<p)(hy:0≤y)(h:y*p+x≤18446744073709551615)(hs:s=x+y*p)(eq:q=p):
 WU (((BitVec.ofInt 64 x|||BitVec.ofInt 64 (WU (WU y*q))).toNat :Int))=s:=by
 subst eq;have hya:0≤y*q:=Int.mul_nonneg hy (by omega)
 have h1:y≤y*q:=by
  have:=Int.mul_le_mul_of_nonneg_left (show(1:Int)≤q by omega) hy
  omega
 have e1:WU y=y:=i4 (by omega)
 rw [e1];have e2:WU (y*q)=y*q:=i4 (by omega)
 rw [e2];subst e
 rw [wR hx hy (by have:(2:Int)^64=18446744073709551616:=by decide
                  omega)]
 rw [hs];exact i4 (by omega)
theorem V6(m:Bool):aH (bitI m) 1=true:=by cases m<;>rfl
theorem u9{n w:Int}(h:(!aH n w)=true):aH n w=false:=by simpa using h
theorem eV{n w:Int}(h:(!aH n w)=false):aH n w=true:=by simpa using h
def w8(k x:Int)(m:Bool)(c v:Int):Bool:=aH k 10&&(aH x 9&&(aH c 5&&aH v 18))
def bY(k x:Int)(m:Bool)(c v:Int):Int:=k+x*1024+bitI m*524288+c*1048576+v*33554432
def aCr:bO Ob:=fun args h=>match args,h with
 | [.agg [.int .i64 k,.int .i64 x,.bool m,.int .i64 c,.int .i64 v]],[]=>some (True,.tup [.int .u64 (bif w8 k x m c v then bY k x m c v else 0),.int .i64 (bif w8 k x m c v then 0 else 2)])
 | _,_=>none
set_option maxRecDepth 100000 in
theorem aCs:aG.ok E11.I Tryz.prog 164 aCr.spec:=by
 intro args h o ho K hK;unfold bO.spec at ho;split at ho
 case h_2=>cases ho
 rename_i p v hv;unfold aCr at hv;split at hv
 case h_2=>cases hv
 rename_i k x m c v;simp only [sI',pI']at hv;obtain⟨rfl,rfl⟩:=hv;simp only [sI']at ho;subst ho;obtain⟨_,hK⟩:=hK;refine aFQ (cM' (E:=E11) (q:=True∧((0:Int)≤(0:Int)∧(0:Int)<(↑5:Int))∧((0:Int)≤(10:Int)∧(10:Int)≤(62:Int))∧bif !aH k 10 then K (.tup [.int .u64 0,.int .i64 2]) []else(0:Int)≤(0:Int)∧((0:Int)≤W (0+1)∧W (0+1)<(↑5:Int))∧((0:Int)≤(9:Int)∧(9:Int)≤(62:Int))∧bif !aH x 9 then K (.tup [.int .u64 0,.int .i64 2]) []else(0:Int)≤W (0+10)∧((0:Int)≤W (W (0+1)+1)∧W (W (0+1)+1)<(↑5:Int))∧((0:Int)≤(1:Int)∧(1:Int)≤(62:Int))∧bif !aH (bitI m) 1 then K (.tup [.int .u64 0,.int .i64 2]) []else(0:Int)≤W (W (0+10)+9)∧((0:Int)≤W (W (W (0+1)+1)+1)∧W (W (W (0+1)+1)+1)<(↑5:Int))∧((0:Int)≤(5:Int)∧(5:Int)≤(62:Int))∧bif !aH c 5 then K (.tup [.int .u64 0,.int .i64 2]) []else(0:Int)≤W (W (W (0+10)+9)+1)∧((0:Int)≤W (W (W (W (0+1)+1)+1)+1)∧W (W (W (W (0+1)+1)+1)+1)<(↑5:Int))∧((0:Int)≤(18:Int)∧(18:Int)≤(62:Int))∧bif !aH v 18 then K (.tup [.int .u64 0,.int .i64 2]) []else(0:Int)≤W (W (W (W (0+10)+9)+1)+5)∧K (.tup [.int .u64 (WU (↑(BitVec.toNat (BitVec.ofInt (IntKind.bits .u64) (WU (↑(BitVec.toNat (BitVec.ofInt (IntKind.bits .u64) (WU (↑(BitVec.toNat (BitVec.ofInt (IntKind.bits .u64) (WU (↑(BitVec.toNat (BitVec.ofInt (IntKind.bits .u64) (WU (↑(BitVec.toNat (BitVec.ofInt (IntKind.bits .u64) 0|||BitVec.ofInt (IntKind.bits .u64) (WU (WU k*2^min (Int.toNat 0) (IntKind.bits .u64))))):Int))|||BitVec.ofInt (IntKind.bits .u64) (WU (WU x*2^min (Int.toNat (W (0+10))) (IntKind.bits .u64))))):Int))|||BitVec.ofInt (IntKind.bits .u64) (WU (WU (bitI m)*2^min (Int.toNat (W (W (0+10)+9))) (IntKind.bits .u64))))):Int))|||BitVec.ofInt (IntKind.bits .u64) (WU (WU c*2^min (Int.toNat (W (W (W (0+10)+9)+1))) (IntKind.bits .u64))))):Int))|||BitVec.ofInt (IntKind.bits .u64) (WU (WU v*2^min (Int.toNat (W (W (W (W (0+10)+9)+1)+5))) (IntKind.bits .u64))))):Int)),.int .i64 0]) []) (by kernel_rfl) ?_)
 simp(disch:=omega) only [W,cJ,Int.reduceAdd,Int.zero_add,Int.reduceToNat]
 refine⟨trivial,⟨by omega,by omega⟩,by omega,aL (fun e=>?_) (fun e1=>⟨by omega,by omega,by omega,aL (fun e=>?_) (fun e2=>⟨by omega,by omega,by omega,aL (fun e=>?_) (fun _=>⟨by omega,by omega,by omega,aL (fun e=>?_) (fun e3=>⟨by omega,by omega,by omega,aL (fun e=>?_) (fun e4=>⟨by omega,?_⟩)⟩)⟩)⟩)⟩)⟩
 ·unfold w8 at hK;rw [u9 e]at hK;exact hK
 ·unfold w8 at hK;rw [eV e1,u9 e]at hK;exact hK
 ·rw [V6]at e;cases e
 ·unfold w8 at hK;rw [eV e1,eV e2,u9 e]at hK;exact hK
 ·unfold w8 at hK;rw [eV e1,eV e2,eV e3,u9 e]at hK;exact hK
 ·unfold w8 at hK;rw [eV e1,eV e2,eV e3,eV e4]at hK;have f1:=eO.1 (eV e1);have f2:=eO.1 (eV e2);have f3:=eO.1 (eV e3);have f4:=eO.1 (eV e4);have fm:0≤bitI m∧bitI m≤1:=by cases m<;>decide
  have hb:IntKind.bits .u64 =64:=rfl;have p1:(2:Int)^(10:Int).toNat =1024:=by decide
  have p2:(2:Int)^(9:Int).toNat =512:=by decide
  have p3:(2:Int)^(5:Int).toNat =32:=by decide
  have p4:(2:Int)^(18:Int).toNat =262144:=by decide
  rw [p1]at f1;rw [p2]at f2;rw [p3]at f3;rw [p4]at f4;refine cast (congrArg (fun z=>K (AVal.tup [.int .u64 z,.int .i64 0]) []) ?_) hK;show bY k x m c v=_;unfold bY;symm;have q0:=gK (a:=0) (x:=0) (y:=k) (p:=1) (q:=2^min 0 64) (s:=k) (by decide) (by omega) (by omega) (by omega) (by omega) (by decide)
  have q1:=gK (a:=10) (x:=k) (y:=x) (p:=1024) (q:=2^min 10 64) (s:=k+x*1024) (by decide) (by omega) (by omega) (by omega) (by omega) (by decide)
  have q2:=gK (a:=19) (x:=k+x*1024) (y:=bitI m) (p:=524288) (q:=2^min 19 64) (s:=k+x*1024+bitI m*524288) (by decide) (by omega) (by omega) (by omega) (by omega) (by decide)
  have q3:=gK (a:=20) (x:=k+x*1024+bitI m*524288) (y:=c) (p:=1048576) (q:=2^min 20 64) (s:=k+x*1024+bitI m*524288+c*1048576) (by decide) (by omega) (by omega) (by omega) (by omega) (by decide)
  have q4:=gK (a:=25) (x:=k+x*1024+bitI m*524288+c*1048576) (y:=v) (p:=33554432) (q:=2^min 25 64) (s:=k+x*1024+bitI m*524288+c*1048576+v*33554432) (by decide) (by omega) (by omega) (by omega) (by omega) (by decide)
  rw [hb];rw [WU]at q0 q1 q2 q3 q4;simp only [WU]at q0 q1 q2 q3 q4⊢;rw [q0,q1,q2,q3,q4]
noncomputable def E12:=(E11.addR 122 aBx aBy).addR 164 aCr aCs
noncomputable def E13a:=E12
theorem vM{x:Int}(h: -9223372036854775808≤x∧x≤9223372036854775807):W x=x:=cJ h
noncomputable def E13:=E13a
theorem YO{x t:Int}(h:0≤x)(ht:1≤t):0≤Int.tmod x t∧Int.tmod x t<t:=by
 rw [Int.tmod_eq_emod_of_nonneg h];exact⟨Int.emod_nonneg _ (by omega),Int.emod_lt_of_pos _ (by omega)⟩
noncomputable def E14:=E13
theorem VL(x:Int){b:Int}(h:0<b):0≤x%b∧x%b<b:=⟨Int.emod_nonneg _ (by omega),Int.emod_lt_of_pos _ h⟩
theorem mN{x a w:Int} :0≤aA x a w∧aA x a w<2^w.toNat:=VL _ (jH _)
def reS:bO Ob:=fun args h=>match args,h with
 | [.agg [.int .i64 k,.int .i64 y,.bool m,.int .i64 c,.int .i64 v]],[]=>some ((0≤k∧k<1024)∧(0≤y∧y<512)∧(0≤c∧c<32)∧(0≤v∧v<262144),.int .u64 (bY k y m c v))
 | _,_=>none
theorem aED:aG.ok E14.I Tryz.prog 66 reS.spec:=by
 intro args h o ho K hK;unfold bO.spec at ho;split at ho
 case h_2=>cases ho
 rename_i p vv hv;unfold reS at hv;split at hv
 case h_2=>cases hv
 rename_i k y m c v;simp only [sI',pI']at hv;obtain⟨rfl,rfl⟩:=hv;simp only [sI']at ho;subst ho;obtain⟨⟨hk,hy,hc,hv⟩,hK⟩:=hK;have hK:K (.int .u64 (bY k y m c v)) []:=hK;refine aFQ (cM' (E:=E14) (q:=bif m then(1024:Int)≠(0:Int)∧(512:Int)≠(0:Int)∧(32:Int)≠(0:Int)∧(262144:Int)≠(0:Int)∧K (.int .u64 (WU (W (W (W (W (Int.tmod k 1024+W (Int.tmod y 512*1024))+W (1*524288))+W (Int.tmod c 32*1048576))+W (Int.tmod v 262144*33554432))))) []else(1024:Int)≠(0:Int)∧(512:Int)≠(0:Int)∧(32:Int)≠(0:Int)∧(262144:Int)≠(0:Int)∧K (.int .u64 (WU (W (W (W (W (Int.tmod k 1024+W (Int.tmod y 512*1024))+W (0*524288))+W (Int.tmod c 32*1048576))+W (Int.tmod v 262144*33554432))))) []) (by kernel_rfl) ?_)
 have e1:Int.tmod k 1024=k:=by rw [Int.tmod_eq_emod_of_nonneg (by omega)];omega
 have e2:Int.tmod y 512=y:=by rw [Int.tmod_eq_emod_of_nonneg (by omega)];omega
 have e3:Int.tmod c 32=c:=by rw [Int.tmod_eq_emod_of_nonneg (by omega)];omega
 have e4:Int.tmod v 262144=v:=by rw [Int.tmod_eq_emod_of_nonneg (by omega)];omega
 rw [e1,e2,e3,e4];unfold bY at hK;cases m
 all_goals
  simp(disch:=omega) only [W,WU,cJ,i4,cond_true,cond_false,bitI]at hK⊢
  repeat refine⟨by omega,?_⟩
  refine cast (congrArg (fun z=>K (AVal.int .u64 z) []) ?_) hK;omega
noncomputable def E15:=(E14).addR 66 reS aED
structure TS where
 i:Int
 bad:Bool
 out:Bool
instance:Inhabited TS:=⟨⟨0,false,false⟩⟩
def a0(r:List Int):Int:=List.headD r 0
def a1(r:List Int):Int:=List.headD (List.tail r) 0
def a2(r:List Int):Int:=List.headD (List.tail (List.tail r)) 0
def a3(r:List Int):Int:=List.headD (List.tail (List.tail (List.tail r))) 0
def a4(r:List Int):Bool:=!ieq (List.headD (List.tail (List.tail (List.tail (List.tail r)))) 0) 0
theorem aCg{b:Bool}(h:(!b)=true):b=false:=by simpa using h
theorem aCf{b:Bool}(h:(!b)=false):b=true:=by simpa using h
noncomputable def E16a:=(E15)
noncomputable def E16:=((((E16a))))
structure okW (xs:List Int):Prop where
 h: ∀x∈xs,0≤x∧x≤18446744073709551615
theorem iP{xs:List Int}(h:okW xs)(a:Int):0≤aB xs a∧aB xs a≤18446744073709551615:=by
 unfold aB;split
 ·rename_i hi;have hlt:a.toNat<xs.length:=by omega
  rw [gD',gE' hlt];exact h.h _ (List.getElem_mem hlt)
 ·omega
def kE(s:Int):Bool:=ile 1 s&&ile s 4
def resC(d e:Int):Int:=bif ieq e 5 then(bif ieq d 1 then 4 else 0)else 5
def X2(d e:Int)(m:Bool):Bool:=bif ieq e 5 then(bif ieq d 1 then false else m)else false
def X3(d e f:Int):Int:=bif ieq e 5 then(bif ieq d 1 then 0 else f)else 0
def cT(a b c d:Int)(m:Bool)(e f:Int):Int:=a+b*4096+c*2097152+d*549755813888+bitI m*281474976710656+e*562949953421312+f*4503599627370496
def dOk(a b c d e f:Int):Bool:=aH a 12&&(aH b 9&&(aH c 18&&(aH d 9&&(aH e 3&&aH f 10))))
theorem UU{x a w:Int}(ha:0≤a∧a≤63)(hw:0≤w∧w≤62):IntKind.wrap .i64 (IntKind.wrap .u64 ((BitVec.ofInt (IntKind.bits .u64) (Int.fdiv x (2^min (Int.toNat a) (IntKind.bits .u64)))&&&BitVec.ofInt (IntKind.bits .u64) (IntKind.wrap .u64 (IntKind.wrap .u64 (1*2^min (Int.toNat w) (IntKind.bits .u64)) - 1))).toNat :Int))=aA x a w:=by
 have hb:IntKind.bits .u64 =64:=rfl;rw [hb];have h1:min a.toNat 64=a.toNat:=by omega
 have h2:min w.toNat 64=w.toNat:=by omega
 have h3:(2:Int)^w.toNat≤4611686018427387904:=B5 (n:=62) (by omega) (by decide)
 have h4:=jH w.toNat;have h5:=jH a.toNat;rw [h1,h2,Int.fdiv_eq_ediv_of_nonneg _ (by omega)]
 simp only [WU,W,Int.one_mul];rw [i4 (x:=2^w.toNat) (by omega),i4 (x:=2^w.toNat - 1) (by omega),jR _ (by omega)]
 have h6:=Int.emod_nonneg (x / 2^a.toNat) (b:=2^w.toNat) (by omega)
 have h7:=Int.emod_lt_of_pos (x / 2^a.toNat) (b:=2^w.toNat) (by omega)
 rw [i4 (by omega),cJ (by omega)]
 rfl
def P1:bO Ob:=fun args h=>match args,h with
 | [.int .u64 x],[]=>some (True,.agg [.int .i64 (aA x 0 12),.int .i64 (aA x 12 9),.int .i64 (aA x 21 18),.int .i64 (aA x 39 9),.bool (ieq (aA x 48 1) 1),.int .i64 (aA x 49 3),.int .i64 (aA x 52 10)])
 | _,_=>none
set_option maxRecDepth 100000 in
theorem UY:aG.ok E16.I Tryz.prog 102 P1.spec:=by
 intro args h o ho K hK;unfold bO.spec at ho;split at ho
 case h_2=>cases ho
 rename_i pp vv hv;unfold P1 at hv;split at hv
 case h_2=>cases hv
 rename_i x;simp only [sI',pI']at hv;obtain⟨rfl,rfl⟩:=hv;simp only [sI']at ho;subst ho;obtain⟨hp,hK⟩:=hK;have hK:K (.agg [.int .i64 (aA x 0 12),.int .i64 (aA x 12 9),.int .i64 (aA x 21 18),.int .i64 (aA x 39 9),.bool (ieq (aA x 48 1) 1),.int .i64 (aA x 49 3),.int .i64 (aA x 52 10)]) []:=hK;refine aFQ (cM' (E:=E16) (q:=((0:Int)≤(0:Int)∧(0:Int)<(↑7:Int))∧((0:Int)≤(0:Int)∧(0:Int)<(↑1:Int))∧1+(1:Nat)≤(4294967296:Nat)∧((0:Int)≤W (0+1)∧W (0+1)<(↑7:Int))∧((0:Int)≤W (0+1)∧W (0+1)<(↑(1+1):Int))∧1+1+(1:Nat)≤(4294967296:Nat)∧((0:Int)≤W (W (0+1)+1)∧W (W (0+1)+1)<(↑7:Int))∧((0:Int)≤W (W (0+1)+1)∧W (W (0+1)+1)<(↑(1+1+1):Int))∧1+1+1+(1:Nat)≤(4294967296:Nat)∧((0:Int)≤W (W (W (0+1)+1)+1)∧W (W (W (0+1)+1)+1)<(↑7:Int))∧((0:Int)≤W (W (W (0+1)+1)+1)∧W (W (W (0+1)+1)+1)<(↑(1+1+1+1):Int))∧1+1+1+1+(1:Nat)≤(4294967296:Nat)∧((0:Int)≤W (W (W (W (0+1)+1)+1)+1)∧W (W (W (W (0+1)+1)+1)+1)<(↑7:Int))∧((0:Int)≤W (W (W (W (0+1)+1)+1)+1)∧W (W (W (W (0+1)+1)+1)+1)<(↑(1+1+1+1+1):Int))∧1+1+1+1+1+(1:Nat)≤(4294967296:Nat)∧((0:Int)≤W (W (W (W (W (0+1)+1)+1)+1)+1)∧W (W (W (W (W (0+1)+1)+1)+1)+1)<(↑7:Int))∧((0:Int)≤W (W (W (W (W (0+1)+1)+1)+1)+1)∧W (W (W (W (W (0+1)+1)+1)+1)+1)<(↑(1+1+1+1+1+1):Int))∧1+1+1+1+1+1+(1:Nat)≤(4294967296:Nat)∧((0:Int)≤W (W (W (W (W (W (0+1)+1)+1)+1)+1)+1)∧W (W (W (W (W (W (0+1)+1)+1)+1)+1)+1)<(↑7:Int))∧((0:Int)≤W (W (W (W (W (W (0+1)+1)+1)+1)+1)+1)∧W (W (W (W (W (W (0+1)+1)+1)+1)+1)+1)<(↑(1+1+1+1+1+1+1):Int))∧1+1+1+1+1+1+1+(1:Nat)≤(4294967296:Nat)∧((0:Int)≤(0:Int)∧(0:Int)<(↑(1+1+1+1+1+1+1+1):Int))∧(0:Int)≤(0:Int)∧((0:Int)≤(0:Int)∧(0:Int)<(↑7:Int))∧(0:Int)≤(12:Int)∧((0:Int)≤(0:Int)∧(0:Int)<(↑7:Int))∧((0:Int)≤W (0+1)∧W (0+1)<(↑(1+1+1+1+1+1+1+1):Int))∧(0:Int)≤W (0+12)∧((0:Int)≤W (0+1)∧W (0+1)<(↑7:Int))∧(0:Int)≤(9:Int)∧((0:Int)≤W (0+1)∧W (0+1)<(↑7:Int))∧((0:Int)≤W (W (0+1)+1)∧W (W (0+1)+1)<(↑(1+1+1+1+1+1+1+1):Int))∧(0:Int)≤W (W (0+12)+9)∧((0:Int)≤W (W (0+1)+1)∧W (W (0+1)+1)<(↑7:Int))∧(0:Int)≤(18:Int)∧((0:Int)≤W (W (0+1)+1)∧W (W (0+1)+1)<(↑7:Int))∧((0:Int)≤W (W (W (0+1)+1)+1)∧W (W (W (0+1)+1)+1)<(↑(1+1+1+1+1+1+1+1):Int))∧(0:Int)≤W (W (W (0+12)+9)+18)∧((0:Int)≤W (W (W (0+1)+1)+1)∧W (W (W (0+1)+1)+1)<(↑7:Int))∧(0:Int)≤(9:Int)∧((0:Int)≤W (W (W (0+1)+1)+1)∧W (W (W (0+1)+1)+1)<(↑7:Int))∧((0:Int)≤W (W (W (W (0+1)+1)+1)+1)∧W (W (W (W (0+1)+1)+1)+1)<(↑(1+1+1+1+1+1+1+1):Int))∧(0:Int)≤W (W (W (W (0+12)+9)+18)+9)∧((0:Int)≤W (W (W (W (0+1)+1)+1)+1)∧W (W (W (W (0+1)+1)+1)+1)<(↑7:Int))∧(0:Int)≤(1:Int)∧((0:Int)≤W (W (W (W (0+1)+1)+1)+1)∧W (W (W (W (0+1)+1)+1)+1)<(↑7:Int))∧((0:Int)≤W (W (W (W (W (0+1)+1)+1)+1)+1)∧W (W (W (W (W (0+1)+1)+1)+1)+1)<(↑(1+1+1+1+1+1+1+1):Int))∧(0:Int)≤W (W (W (W (W (0+12)+9)+18)+9)+1)∧((0:Int)≤W (W (W (W (W (0+1)+1)+1)+1)+1)∧W (W (W (W (W (0+1)+1)+1)+1)+1)<(↑7:Int))∧(0:Int)≤(3:Int)∧((0:Int)≤W (W (W (W (W (0+1)+1)+1)+1)+1)∧W (W (W (W (W (0+1)+1)+1)+1)+1)<(↑7:Int))∧((0:Int)≤W (W (W (W (W (W (0+1)+1)+1)+1)+1)+1)∧W (W (W (W (W (W (0+1)+1)+1)+1)+1)+1)<(↑(1+1+1+1+1+1+1+1):Int))∧(0:Int)≤W (W (W (W (W (W (0+12)+9)+18)+9)+1)+3)∧((0:Int)≤W (W (W (W (W (W (0+1)+1)+1)+1)+1)+1)∧W (W (W (W (W (W (0+1)+1)+1)+1)+1)+1)<(↑7:Int))∧(0:Int)≤(10:Int)∧((0:Int)≤W (W (W (W (W (W (0+1)+1)+1)+1)+1)+1)∧W (W (W (W (W (W (0+1)+1)+1)+1)+1)+1)<(↑7:Int))∧((0:Int)≤(0:Int)∧(0:Int)<(↑7:Int))∧((0:Int)≤(1:Int)∧(1:Int)<(↑7:Int))∧((0:Int)≤(2:Int)∧(2:Int)<(↑7:Int))∧((0:Int)≤(3:Int)∧(3:Int)<(↑7:Int))∧((0:Int)≤(4:Int)∧(4:Int)<(↑7:Int))∧((0:Int)≤(5:Int)∧(5:Int)<(↑7:Int))∧((0:Int)≤(6:Int)∧(6:Int)<(↑7:Int))∧K (.agg [.int .i64 (W (WU (↑(BitVec.toNat (BitVec.ofInt (IntKind.bits .u64) (Int.fdiv x (2^min (Int.toNat 0) (IntKind.bits .u64)))&&&BitVec.ofInt (IntKind.bits .u64) (WU (WU (1*2^min (Int.toNat 12) (IntKind.bits .u64)) - 1)))):Int))),.int .i64 (W (WU (↑(BitVec.toNat (BitVec.ofInt (IntKind.bits .u64) (Int.fdiv x (2^min (Int.toNat (W (0+12))) (IntKind.bits .u64)))&&&BitVec.ofInt (IntKind.bits .u64) (WU (WU (1*2^min (Int.toNat 9) (IntKind.bits .u64)) - 1)))):Int))),.int .i64 (W (WU (↑(BitVec.toNat (BitVec.ofInt (IntKind.bits .u64) (Int.fdiv x (2^min (Int.toNat (W (W (0+12)+9))) (IntKind.bits .u64)))&&&BitVec.ofInt (IntKind.bits .u64) (WU (WU (1*2^min (Int.toNat 18) (IntKind.bits .u64)) - 1)))):Int))),.int .i64 (W (WU (↑(BitVec.toNat (BitVec.ofInt (IntKind.bits .u64) (Int.fdiv x (2^min (Int.toNat (W (W (W (0+12)+9)+18))) (IntKind.bits .u64)))&&&BitVec.ofInt (IntKind.bits .u64) (WU (WU (1*2^min (Int.toNat 9) (IntKind.bits .u64)) - 1)))):Int))),.bool (ieq (W (WU (↑(BitVec.toNat (BitVec.ofInt (IntKind.bits .u64) (Int.fdiv x (2^min (Int.toNat (W (W (W (W (0+12)+9)+18)+9))) (IntKind.bits .u64)))&&&BitVec.ofInt (IntKind.bits .u64) (WU (WU (1*2^min (Int.toNat 1) (IntKind.bits .u64)) - 1)))):Int))) 1),.int .i64 (W (WU (↑(BitVec.toNat (BitVec.ofInt (IntKind.bits .u64) (Int.fdiv x (2^min (Int.toNat (W (W (W (W (W (0+12)+9)+18)+9)+1))) (IntKind.bits .u64)))&&&BitVec.ofInt (IntKind.bits .u64) (WU (WU (1*2^min (Int.toNat 3) (IntKind.bits .u64)) - 1)))):Int))),.int .i64 (W (WU (↑(BitVec.toNat (BitVec.ofInt (IntKind.bits .u64) (Int.fdiv x (2^min (Int.toNat (W (W (W (W (W (W (0+12)+9)+18)+9)+1)+3))) (IntKind.bits .u64)))&&&BitVec.ofInt (IntKind.bits .u64) (WU (WU (1*2^min (Int.toNat 10) (IntKind.bits .u64)) - 1)))):Int)))]) []) (by kernel_rfl) ?_)
 simp(disch:=omega) only [W,WU,cJ,Int.reduceAdd,Int.zero_add]
 simp(disch:=omega) only [UU]
 repeat refine⟨by omega,?_⟩
 exact hK
theorem nE{a b:Int}{X Y:Prop}(h1:a<b→X)(h2:b≤a→Y):cond (ilt a b) X Y:=
 aL (fun e=>h1 (by rw [bJ,dT']at e;exact e)) (fun e=>h2 (by rw [bJ,dF']at e;omega))
theorem uQ{a b:Int}{X Y:Prop}(h1:a≤b→X)(h2:b<a→Y):cond (ile a b) X Y:=
 aL (fun e=>h1 (by rw [bX,dT']at e;exact e)) (fun e=>h2 (by rw [bX,dF']at e;omega))
theorem JJ{a b:Int}{X Y:Prop}(h1:a=b→X)(h2:a≠b→Y):cond (ieq a b) X Y:=
 aL (fun e=>h1 (by rw [bI]at e;simpa using e)) (fun e=>h2 (by rw [bI]at e;simpa using e))
theorem qW{a b c d e f:Int} :dOk a b c d e f=true↔(0≤a∧a<4096)∧(0≤b∧b<512)∧(0≤c∧c<262144)∧(0≤d∧d<512)∧(0≤e∧e<8)∧(0≤f∧f<1024):=by
 unfold dOk;simp only [Bool.and_eq_true,eO]<;>rfl
def P4:bO Ob:=fun args h=>match args,h with
 | [.agg [.int .i64 a,.int .i64 b,.int .i64 c,.int .i64 d,.bool m,.int .i64 e,.int .i64 f]],[]=>some (True,.tup [.int .u64 (bif dOk a b c d e f then cT a b c d m e f else 0),.int .i64 (bif dOk a b c d e f then 0 else 2)])
 | _,_=>none
set_option maxRecDepth 100000 in
theorem UZ:aG.ok E16.I Tryz.prog 113 P4.spec:=by
 intro args h o ho K hK;unfold bO.spec at ho;split at ho
 case h_2=>cases ho
 rename_i pp vv hv;unfold P4 at hv;split at hv
 case h_2=>cases hv
 rename_i a b c d m e f;simp only [sI',pI']at hv;obtain⟨rfl,rfl⟩:=hv;simp only [sI']at ho;subst ho;obtain⟨hp,hK⟩:=hK;have hK:K (.tup [.int .u64 (bif dOk a b c d e f then cT a b c d m e f else 0),.int .i64 (bif dOk a b c d e f then 0 else 2)]) []:=hK;refine aFQ (cM' (E:=E16) (q:=((0:Int)≤(0:Int)∧(0:Int)<(↑7:Int))∧((0:Int)≤(0:Int)∧(0:Int)<(↑1:Int))∧1+(1:Nat)≤(4294967296:Nat)∧((0:Int)≤W (0+1)∧W (0+1)<(↑7:Int))∧((0:Int)≤W (0+1)∧W (0+1)<(↑(1+1):Int))∧1+1+(1:Nat)≤(4294967296:Nat)∧((0:Int)≤W (W (0+1)+1)∧W (W (0+1)+1)<(↑7:Int))∧((0:Int)≤W (W (0+1)+1)∧W (W (0+1)+1)<(↑(1+1+1):Int))∧1+1+1+(1:Nat)≤(4294967296:Nat)∧((0:Int)≤W (W (W (0+1)+1)+1)∧W (W (W (0+1)+1)+1)<(↑7:Int))∧((0:Int)≤W (W (W (0+1)+1)+1)∧W (W (W (0+1)+1)+1)<(↑(1+1+1+1):Int))∧1+1+1+1+(1:Nat)≤(4294967296:Nat)∧((0:Int)≤W (W (W (W (0+1)+1)+1)+1)∧W (W (W (W (0+1)+1)+1)+1)<(↑7:Int))∧((0:Int)≤W (W (W (W (0+1)+1)+1)+1)∧W (W (W (W (0+1)+1)+1)+1)<(↑(1+1+1+1+1):Int))∧1+1+1+1+1+(1:Nat)≤(4294967296:Nat)∧((0:Int)≤W (W (W (W (W (0+1)+1)+1)+1)+1)∧W (W (W (W (W (0+1)+1)+1)+1)+1)<(↑7:Int))∧((0:Int)≤W (W (W (W (W (0+1)+1)+1)+1)+1)∧W (W (W (W (W (0+1)+1)+1)+1)+1)<(↑(1+1+1+1+1+1):Int))∧1+1+1+1+1+1+(1:Nat)≤(4294967296:Nat)∧((0:Int)≤W (W (W (W (W (W (0+1)+1)+1)+1)+1)+1)∧W (W (W (W (W (W (0+1)+1)+1)+1)+1)+1)<(↑7:Int))∧((0:Int)≤W (W (W (W (W (W (0+1)+1)+1)+1)+1)+1)∧W (W (W (W (W (W (0+1)+1)+1)+1)+1)+1)<(↑(1+1+1+1+1+1+1):Int))∧1+1+1+1+1+1+1+(1:Nat)≤(4294967296:Nat)∧bif m then((0:Int)≤(0:Int)∧(0:Int)<(↑7:Int))∧bif ilt a 0 then K (.tup [.int .u64 0,.int .i64 2]) []else((0:Int)≤(0:Int)∧(0:Int)<(↑7:Int))∧(0:Int)≤(12:Int)∧bif ile (W (1*2^min (Int.toNat 12) (IntKind.bits .i64))) a then K (.tup [.int .u64 0,.int .i64 2]) []else((0:Int)≤(0:Int)∧(0:Int)<(↑(1+1+1+1+1+1+1+1):Int))∧(0:Int)≤(0:Int)∧((0:Int)≤W (0+1)∧W (0+1)<(↑7:Int))∧bif ilt b 0 then K (.tup [.int .u64 0,.int .i64 2]) []else((0:Int)≤W (0+1)∧W (0+1)<(↑7:Int))∧(0:Int)≤(9:Int)∧bif ile (W (1*2^min (Int.toNat 9) (IntKind.bits .i64))) b then K (.tup [.int .u64 0,.int .i64 2]) []else((0:Int)≤W (0+1)∧W (0+1)<(↑(1+1+1+1+1+1+1+1):Int))∧(0:Int)≤W (0+12)∧((0:Int)≤W (W (0+1)+1)∧W (W (0+1)+1)<(↑7:Int))∧bif ilt c 0 then K (.tup [.int .u64 0,.int .i64 2]) []else((0:Int)≤W (W (0+1)+1)∧W (W (0+1)+1)<(↑7:Int))∧(0:Int)≤(18:Int)∧bif ile (W (1*2^min (Int.toNat 18) (IntKind.bits .i64))) c then K (.tup [.int .u64 0,.int .i64 2]) []else((0:Int)≤W (W (0+1)+1)∧W (W (0+1)+1)<(↑(1+1+1+1+1+1+1+1):Int))∧(0:Int)≤W (W (0+12)+9)∧((0:Int)≤W (W (W (0+1)+1)+1)∧W (W (W (0+1)+1)+1)<(↑7:Int))∧bif ilt d 0 then K (.tup [.int .u64 0,.int .i64 2]) []else((0:Int)≤W (W (W (0+1)+1)+1)∧W (W (W (0+1)+1)+1)<(↑7:Int))∧(0:Int)≤(9:Int)∧bif ile (W (1*2^min (Int.toNat 9) (IntKind.bits .i64))) d then K (.tup [.int .u64 0,.int .i64 2]) []else((0:Int)≤W (W (W (0+1)+1)+1)∧W (W (W (0+1)+1)+1)<(↑(1+1+1+1+1+1+1+1):Int))∧(0:Int)≤W (W (W (0+12)+9)+18)∧((0:Int)≤W (W (W (W (0+1)+1)+1)+1)∧W (W (W (W (0+1)+1)+1)+1)<(↑7:Int))∧((0:Int)≤W (W (W (W (0+1)+1)+1)+1)∧W (W (W (W (0+1)+1)+1)+1)<(↑7:Int))∧(0:Int)≤(1:Int)∧((0:Int)≤W (W (W (W (0+1)+1)+1)+1)∧W (W (W (W (0+1)+1)+1)+1)<(↑(1+1+1+1+1+1+1+1):Int))∧(0:Int)≤W (W (W (W (0+12)+9)+18)+9)∧((0:Int)≤W (W (W (W (W (0+1)+1)+1)+1)+1)∧W (W (W (W (W (0+1)+1)+1)+1)+1)<(↑7:Int))∧bif ilt e 0 then K (.tup [.int .u64 0,.int .i64 2]) []else((0:Int)≤W (W (W (W (W (0+1)+1)+1)+1)+1)∧W (W (W (W (W (0+1)+1)+1)+1)+1)<(↑7:Int))∧(0:Int)≤(3:Int)∧bif ile (W (1*2^min (Int.toNat 3) (IntKind.bits .i64))) e then K (.tup [.int .u64 0,.int .i64 2]) []else((0:Int)≤W (W (W (W (W (0+1)+1)+1)+1)+1)∧W (W (W (W (W (0+1)+1)+1)+1)+1)<(↑(1+1+1+1+1+1+1+1):Int))∧(0:Int)≤W (W (W (W (W (0+12)+9)+18)+9)+1)∧((0:Int)≤W (W (W (W (W (W (0+1)+1)+1)+1)+1)+1)∧W (W (W (W (W (W (0+1)+1)+1)+1)+1)+1)<(↑7:Int))∧bif ilt f 0 then K (.tup [.int .u64 0,.int .i64 2]) []else((0:Int)≤W (W (W (W (W (W (0+1)+1)+1)+1)+1)+1)∧W (W (W (W (W (W (0+1)+1)+1)+1)+1)+1)<(↑7:Int))∧(0:Int)≤(10:Int)∧bif ile (W (1*2^min (Int.toNat 10) (IntKind.bits .i64))) f then K (.tup [.int .u64 0,.int .i64 2]) []else((0:Int)≤W (W (W (W (W (W (0+1)+1)+1)+1)+1)+1)∧W (W (W (W (W (W (0+1)+1)+1)+1)+1)+1)<(↑(1+1+1+1+1+1+1+1):Int))∧(0:Int)≤W (W (W (W (W (W (0+12)+9)+18)+9)+1)+3)∧K (.tup [.int .u64 (WU (↑(BitVec.toNat (BitVec.ofInt (IntKind.bits .u64) (WU (↑(BitVec.toNat (BitVec.ofInt (IntKind.bits .u64) (WU (↑(BitVec.toNat (BitVec.ofInt (IntKind.bits .u64) (WU (↑(BitVec.toNat (BitVec.ofInt (IntKind.bits .u64) (WU (↑(BitVec.toNat (BitVec.ofInt (IntKind.bits .u64) (WU (↑(BitVec.toNat (BitVec.ofInt (IntKind.bits .u64) (WU (↑(BitVec.toNat (BitVec.ofInt (IntKind.bits .u64) 0|||BitVec.ofInt (IntKind.bits .u64) (WU (WU a*2^min (Int.toNat 0) (IntKind.bits .u64))))):Int))|||BitVec.ofInt (IntKind.bits .u64) (WU (WU b*2^min (Int.toNat (W (0+12))) (IntKind.bits .u64))))):Int))|||BitVec.ofInt (IntKind.bits .u64) (WU (WU c*2^min (Int.toNat (W (W (0+12)+9))) (IntKind.bits .u64))))):Int))|||BitVec.ofInt (IntKind.bits .u64) (WU (WU d*2^min (Int.toNat (W (W (W (0+12)+9)+18))) (IntKind.bits .u64))))):Int))|||BitVec.ofInt (IntKind.bits .u64) (WU (WU 1*2^min (Int.toNat (W (W (W (W (0+12)+9)+18)+9))) (IntKind.bits .u64))))):Int))|||BitVec.ofInt (IntKind.bits .u64) (WU (WU e*2^min (Int.toNat (W (W (W (W (W (0+12)+9)+18)+9)+1))) (IntKind.bits .u64))))):Int))|||BitVec.ofInt (IntKind.bits .u64) (WU (WU f*2^min (Int.toNat (W (W (W (W (W (W (0+12)+9)+18)+9)+1)+3))) (IntKind.bits .u64))))):Int)),.int .i64 0]) []else((0:Int)≤(0:Int)∧(0:Int)<(↑7:Int))∧bif ilt a 0 then K (.tup [.int .u64 0,.int .i64 2]) []else((0:Int)≤(0:Int)∧(0:Int)<(↑7:Int))∧(0:Int)≤(12:Int)∧bif ile (W (1*2^min (Int.toNat 12) (IntKind.bits .i64))) a then K (.tup [.int .u64 0,.int .i64 2]) []else((0:Int)≤(0:Int)∧(0:Int)<(↑(1+1+1+1+1+1+1+1):Int))∧(0:Int)≤(0:Int)∧((0:Int)≤W (0+1)∧W (0+1)<(↑7:Int))∧bif ilt b 0 then K (.tup [.int .u64 0,.int .i64 2]) []else((0:Int)≤W (0+1)∧W (0+1)<(↑7:Int))∧(0:Int)≤(9:Int)∧bif ile (W (1*2^min (Int.toNat 9) (IntKind.bits .i64))) b then K (.tup [.int .u64 0,.int .i64 2]) []else((0:Int)≤W (0+1)∧W (0+1)<(↑(1+1+1+1+1+1+1+1):Int))∧(0:Int)≤W (0+12)∧((0:Int)≤W (W (0+1)+1)∧W (W (0+1)+1)<(↑7:Int))∧bif ilt c 0 then K (.tup [.int .u64 0,.int .i64 2]) []else((0:Int)≤W (W (0+1)+1)∧W (W (0+1)+1)<(↑7:Int))∧(0:Int)≤(18:Int)∧bif ile (W (1*2^min (Int.toNat 18) (IntKind.bits .i64))) c then K (.tup [.int .u64 0,.int .i64 2]) []else((0:Int)≤W (W (0+1)+1)∧W (W (0+1)+1)<(↑(1+1+1+1+1+1+1+1):Int))∧(0:Int)≤W (W (0+12)+9)∧((0:Int)≤W (W (W (0+1)+1)+1)∧W (W (W (0+1)+1)+1)<(↑7:Int))∧bif ilt d 0 then K (.tup [.int .u64 0,.int .i64 2]) []else((0:Int)≤W (W (W (0+1)+1)+1)∧W (W (W (0+1)+1)+1)<(↑7:Int))∧(0:Int)≤(9:Int)∧bif ile (W (1*2^min (Int.toNat 9) (IntKind.bits .i64))) d then K (.tup [.int .u64 0,.int .i64 2]) []else((0:Int)≤W (W (W (0+1)+1)+1)∧W (W (W (0+1)+1)+1)<(↑(1+1+1+1+1+1+1+1):Int))∧(0:Int)≤W (W (W (0+12)+9)+18)∧((0:Int)≤W (W (W (W (0+1)+1)+1)+1)∧W (W (W (W (0+1)+1)+1)+1)<(↑7:Int))∧((0:Int)≤W (W (W (W (0+1)+1)+1)+1)∧W (W (W (W (0+1)+1)+1)+1)<(↑7:Int))∧(0:Int)≤(1:Int)∧((0:Int)≤W (W (W (W (0+1)+1)+1)+1)∧W (W (W (W (0+1)+1)+1)+1)<(↑(1+1+1+1+1+1+1+1):Int))∧(0:Int)≤W (W (W (W (0+12)+9)+18)+9)∧((0:Int)≤W (W (W (W (W (0+1)+1)+1)+1)+1)∧W (W (W (W (W (0+1)+1)+1)+1)+1)<(↑7:Int))∧bif ilt e 0 then K (.tup [.int .u64 0,.int .i64 2]) []else((0:Int)≤W (W (W (W (W (0+1)+1)+1)+1)+1)∧W (W (W (W (W (0+1)+1)+1)+1)+1)<(↑7:Int))∧(0:Int)≤(3:Int)∧bif ile (W (1*2^min (Int.toNat 3) (IntKind.bits .i64))) e then K (.tup [.int .u64 0,.int .i64 2]) []else((0:Int)≤W (W (W (W (W (0+1)+1)+1)+1)+1)∧W (W (W (W (W (0+1)+1)+1)+1)+1)<(↑(1+1+1+1+1+1+1+1):Int))∧(0:Int)≤W (W (W (W (W (0+12)+9)+18)+9)+1)∧((0:Int)≤W (W (W (W (W (W (0+1)+1)+1)+1)+1)+1)∧W (W (W (W (W (W (0+1)+1)+1)+1)+1)+1)<(↑7:Int))∧bif ilt f 0 then K (.tup [.int .u64 0,.int .i64 2]) []else((0:Int)≤W (W (W (W (W (W (0+1)+1)+1)+1)+1)+1)∧W (W (W (W (W (W (0+1)+1)+1)+1)+1)+1)<(↑7:Int))∧(0:Int)≤(10:Int)∧bif ile (W (1*2^min (Int.toNat 10) (IntKind.bits .i64))) f then K (.tup [.int .u64 0,.int .i64 2]) []else((0:Int)≤W (W (W (W (W (W (0+1)+1)+1)+1)+1)+1)∧W (W (W (W (W (W (0+1)+1)+1)+1)+1)+1)<(↑(1+1+1+1+1+1+1+1):Int))∧(0:Int)≤W (W (W (W (W (W (0+12)+9)+18)+9)+1)+3)∧K (.tup [.int .u64 (WU (↑(BitVec.toNat (BitVec.ofInt (IntKind.bits .u64) (WU (↑(BitVec.toNat (BitVec.ofInt (IntKind.bits .u64) (WU (↑(BitVec.toNat (BitVec.ofInt (IntKind.bits .u64) (WU (↑(BitVec.toNat (BitVec.ofInt (IntKind.bits .u64) (WU (↑(BitVec.toNat (BitVec.ofInt (IntKind.bits .u64) (WU (↑(BitVec.toNat (BitVec.ofInt (IntKind.bits .u64) (WU (↑(BitVec.toNat (BitVec.ofInt (IntKind.bits .u64) 0|||BitVec.ofInt (IntKind.bits .u64) (WU (WU a*2^min (Int.toNat 0) (IntKind.bits .u64))))):Int))|||BitVec.ofInt (IntKind.bits .u64) (WU (WU b*2^min (Int.toNat (W (0+12))) (IntKind.bits .u64))))):Int))|||BitVec.ofInt (IntKind.bits .u64) (WU (WU c*2^min (Int.toNat (W (W (0+12)+9))) (IntKind.bits .u64))))):Int))|||BitVec.ofInt (IntKind.bits .u64) (WU (WU d*2^min (Int.toNat (W (W (W (0+12)+9)+18))) (IntKind.bits .u64))))):Int))|||BitVec.ofInt (IntKind.bits .u64) (WU (WU 0*2^min (Int.toNat (W (W (W (W (0+12)+9)+18)+9))) (IntKind.bits .u64))))):Int))|||BitVec.ofInt (IntKind.bits .u64) (WU (WU e*2^min (Int.toNat (W (W (W (W (W (0+12)+9)+18)+9)+1))) (IntKind.bits .u64))))):Int))|||BitVec.ofInt (IntKind.bits .u64) (WU (WU f*2^min (Int.toNat (W (W (W (W (W (W (0+12)+9)+18)+9)+1)+3))) (IntKind.bits .u64))))):Int)),.int .i64 0]) []) (by kernel_rfl) ?_)
 have no:dOk a b c d e f=false→K (.tup [.int .u64 0,.int .i64 2]) []:=by intro h;rw [h]at hK;exact hK
 have yes:dOk a b c d e f=true→K (.tup [.int .u64 (cT a b c d m e f),.int .i64 0]) []:=by intro h;rw [h]at hK;exact hK
 clear hK hp;have w10:W (1*2^min (Int.toNat 10) (IntKind.bits .i64))=1024:=by decide
 have w12:W (1*2^min (Int.toNat 12) (IntKind.bits .i64))=4096:=by decide
 have w9:W (1*2^min (Int.toNat 9) (IntKind.bits .i64))=512:=by decide
 have w18:W (1*2^min (Int.toNat 18) (IntKind.bits .i64))=262144:=by decide
 have w3:W (1*2^min (Int.toNat 3) (IntKind.bits .i64))=8:=by decide
 rw [w10,w12,w9,w18,w3]
 simp(disch:=omega) only [W,cJ,Int.reduceAdd,Int.zero_add,Int.reduceToNat]
 cases m
 ·simp only [cond_true,cond_false]
  repeat' first
   | refine⟨by omega,?_⟩
   | refine nE (fun _=>?_) (fun _=>?_)
   | refine uQ (fun _=>?_) (fun _=>?_)
  all_goals first
   | exact no (by cases h:dOk a b c d e f with
                  | false=>rfl
                  | true=>have:=qW.1 h;omega)
   | skip
  have ok:dOk a b c d e f=true:=qW.2 (by omega)
  refine cast (congrArg (fun z=>K (AVal.tup [.int .u64 z,.int .i64 0]) []) ?_) (yes ok);symm;have hb:IntKind.bits .u64 =64:=rfl;rw [hb];clear yes no ok;have q0:=gK (a:=0) (x:=0) (y:=a) (p:=1) (q:=2^min 0 64) (s:=a) (by decide) (by omega) (by omega) (by omega) (by omega) (by decide)
  have q1:=gK (a:=12) (x:=a) (y:=b) (p:=4096) (q:=2^min 12 64) (s:=a+b*4096) (by decide) (by omega) (by omega) (by omega) (by omega) (by decide)
  have q2:=gK (a:=21) (x:=a+b*4096) (y:=c) (p:=2097152) (q:=2^min 21 64) (s:=a+b*4096+c*2097152) (by decide) (by omega) (by omega) (by omega) (by omega) (by decide)
  have q3:=gK (a:=39) (x:=a+b*4096+c*2097152) (y:=d) (p:=549755813888) (q:=2^min 39 64) (s:=a+b*4096+c*2097152+d*549755813888) (by decide) (by omega) (by omega) (by omega) (by omega) (by decide)
  have q4:=gK (a:=48) (x:=a+b*4096+c*2097152+d*549755813888) (y:=0) (p:=281474976710656) (q:=2^min 48 64) (s:=a+b*4096+c*2097152+d*549755813888+0*281474976710656) (by decide) (by omega) (by omega) (by omega) (by omega) (by decide)
  have q5:=gK (a:=49) (x:=a+b*4096+c*2097152+d*549755813888+0*281474976710656) (y:=e) (p:=562949953421312) (q:=2^min 49 64) (s:=a+b*4096+c*2097152+d*549755813888+0*281474976710656+e*562949953421312) (by decide) (by omega) (by omega) (by omega) (by omega) (by decide)
  have q6:=gK (a:=52) (x:=a+b*4096+c*2097152+d*549755813888+0*281474976710656+e*562949953421312) (y:=f) (p:=4503599627370496) (q:=2^min 52 64) (s:=a+b*4096+c*2097152+d*549755813888+0*281474976710656+e*562949953421312+f*4503599627370496) (by decide) (by omega) (by omega) (by omega) (by omega) (by decide)
  simp only [WU]at q0 q1 q2 q3 q4 q5 q6⊢;rw [q0,q1,q2,q3,q4,q5,q6];unfold cT bitI;rfl
 ·simp only [cond_true,cond_false]
  repeat' first
   | refine⟨by omega,?_⟩
   | refine nE (fun _=>?_) (fun _=>?_)
   | refine uQ (fun _=>?_) (fun _=>?_)
  all_goals first
   | exact no (by cases h:dOk a b c d e f with
                  | false=>rfl
                  | true=>have:=qW.1 h;omega)
   | skip
  have ok:dOk a b c d e f=true:=qW.2 (by omega)
  refine cast (congrArg (fun z=>K (AVal.tup [.int .u64 z,.int .i64 0]) []) ?_) (yes ok);symm;have hb:IntKind.bits .u64 =64:=rfl;rw [hb];clear yes no ok;have q0:=gK (a:=0) (x:=0) (y:=a) (p:=1) (q:=2^min 0 64) (s:=a) (by decide) (by omega) (by omega) (by omega) (by omega) (by decide)
  have q1:=gK (a:=12) (x:=a) (y:=b) (p:=4096) (q:=2^min 12 64) (s:=a+b*4096) (by decide) (by omega) (by omega) (by omega) (by omega) (by decide)
  have q2:=gK (a:=21) (x:=a+b*4096) (y:=c) (p:=2097152) (q:=2^min 21 64) (s:=a+b*4096+c*2097152) (by decide) (by omega) (by omega) (by omega) (by omega) (by decide)
  have q3:=gK (a:=39) (x:=a+b*4096+c*2097152) (y:=d) (p:=549755813888) (q:=2^min 39 64) (s:=a+b*4096+c*2097152+d*549755813888) (by decide) (by omega) (by omega) (by omega) (by omega) (by decide)
  have q4:=gK (a:=48) (x:=a+b*4096+c*2097152+d*549755813888) (y:=1) (p:=281474976710656) (q:=2^min 48 64) (s:=a+b*4096+c*2097152+d*549755813888+1*281474976710656) (by decide) (by omega) (by omega) (by omega) (by omega) (by decide)
  have q5:=gK (a:=49) (x:=a+b*4096+c*2097152+d*549755813888+1*281474976710656) (y:=e) (p:=562949953421312) (q:=2^min 49 64) (s:=a+b*4096+c*2097152+d*549755813888+1*281474976710656+e*562949953421312) (by decide) (by omega) (by omega) (by omega) (by omega) (by decide)
  have q6:=gK (a:=52) (x:=a+b*4096+c*2097152+d*549755813888+1*281474976710656+e*562949953421312) (y:=f) (p:=4503599627370496) (q:=2^min 52 64) (s:=a+b*4096+c*2097152+d*549755813888+1*281474976710656+e*562949953421312+f*4503599627370496) (by decide) (by omega) (by omega) (by omega) (by omega) (by decide)
  simp only [WU]at q0 q1 q2 q3 q4 q5 q6⊢;rw [q0,q1,q2,q3,q4,q5,q6];unfold cT bitI;rfl
noncomputable def E20:=(E16.addR 102 P1 UY).addR 113 P4 UZ
def eY(a:Int):Int:=(a+1)%4096
def H3:bO Ob:=fun args h=>match args,h with
 | [.agg [.int .i64 a,.int .i64 b,.int .i64 c,.int .i64 d,.bool m,.int .i64 e,.int .i64 f]],[]=>some (0≤a∧a≤1000000,.agg [.int .i64 (eY a),.int .i64 0,.int .i64 0,.int .i64 0,.bool false,.int .i64 1,.int .i64 0])
 | _,_=>none
theorem RW:aG.ok E20.I Tryz.prog 214 H3.spec:=by
 intro args h o ho K hK;unfold bO.spec at ho;split at ho
 case h_2=>cases ho
 rename_i pp vv hv;unfold H3 at hv;split at hv
 case h_2=>cases hv
 rename_i a b c d m e f;simp only [sI',pI']at hv;obtain⟨rfl,rfl⟩:=hv;simp only [sI']at ho;subst ho;obtain⟨hp,hK⟩:=hK;have hK:K (.agg [.int .i64 (eY a),.int .i64 0,.int .i64 0,.int .i64 0,.bool false,.int .i64 1,.int .i64 0]) []:=hK;refine aFQ (cM' (E:=E20) (q:=K (.agg [.int .i64 (W (↑(BitVec.toNat (BitVec.ofInt (IntKind.bits .i64) (W (a+1))&&&BitVec.ofInt (IntKind.bits .i64) 4095)):Int)),.int .i64 0,.int .i64 0,.int .i64 0,.bool false,.int .i64 1,.int .i64 0]) []) (by kernel_rfl) ?_)
 refine cast (congrArg (fun z=>K (.agg [.int .i64 z,.int .i64 0,.int .i64 0,.int .i64 0,.bool false,.int .i64 1,.int .i64 0]) []) ?_) hK;show eY a=_;have hb:IntKind.bits .i64 =64:=rfl;simp only [W];rw [hb,cJ (x:=a+1) (by omega)]
 have:=jR (n:=64) (w:=12) (a+1) (by omega)
 have e:(2:Int)^12 - 1=4095:=by decide
 rw [e]at this;rw [this];have e2:(2:Int)^12=4096:=by decide
 rw [e2,cJ (by omega)]
 rfl
def H8:bO Ob:=fun args h=>match args,h with
 | [.agg [.int .i64 a,.int .i64 b,.int .i64 c,.int .i64 d,.bool m,.int .i64 e,.int .i64 f]],[]=>some (True,.bool (kE e))
 | _,_=>none
theorem R5:aG.ok E8.I Tryz.prog 109 H8.spec:=by
 intro args h o ho K hK;unfold bO.spec at ho;split at ho
 case h_2=>cases ho
 rename_i pp vv hv;unfold H8 at hv;split at hv
 case h_2=>cases hv
 rename_i a b c d m e f;simp only [sI',pI']at hv;obtain⟨rfl,rfl⟩:=hv;simp only [sI']at ho;subst ho;obtain⟨hp,hK⟩:=hK;have hK:K (.bool (kE e)) []:=hK;refine aFQ (cM' (E:=E8) (q:=((0:Int)≤(0:Int)∧(0:Int)<(↑4:Int))∧bif ieq e 1 then K (.bool true) []else((0:Int)≤W (0+1)∧W (0+1)<(↑4:Int))∧bif ieq e 2 then K (.bool true) []else((0:Int)≤W (W (0+1)+1)∧W (W (0+1)+1)<(↑4:Int))∧bif ieq e 3 then K (.bool true) []else((0:Int)≤W (W (W (0+1)+1)+1)∧W (W (W (0+1)+1)+1)<(↑4:Int))∧bif ieq e 4 then K (.bool true) []else K (.bool false) []) (by kernel_rfl) ?_)
 have hb: ∀v:Bool,kE e=v→K (.bool v) []:=by intro v h;rw [←h];exact hK
 have yes:1≤e∧e≤4→kE e=true:=by intro h;unfold kE;rw [bX,bX,decide_eq_true h.1,decide_eq_true h.2];rfl
 have no: ¬(1≤e∧e≤4)→kE e=false:=by
  intro h;unfold kE;rw [bX,bX]
  by_cases h1:1≤e
  ·rw [decide_eq_true h1,decide_eq_false (by omega)];rfl
  ·rw [decide_eq_false h1];rfl
 simp(disch:=omega) only [W,cJ,Int.reduceAdd,Int.zero_add]
 repeat' first
  | refine⟨by omega,?_⟩
  | refine JJ (fun _=>?_) (fun _=>?_)
 all_goals first
  | exact hb _ (yes (by omega))
  | exact hb _ (no (by omega))
def SS:bO Ob:=fun args h=>match args,h with
 | [.agg [.int .i64 a,.int .i64 b,.int .i64 c,.int .i64 d,.bool m,.int .i64 e,.int .i64 f]],[]=>some (True,.agg [.int .i64 (resC d e),.bool (X2 d e m),.int .i64 (X3 d e f)])
 | _,_=>none
theorem X1:aG.ok E20.I Tryz.prog 107 SS.spec:=by
 intro args h o ho K hK;unfold bO.spec at ho;split at ho
 case h_2=>cases ho
 rename_i pp vv hv;unfold SS at hv;split at hv
 case h_2=>cases hv
 rename_i a b c d m e f;simp only [sI',pI']at hv;obtain⟨rfl,rfl⟩:=hv;simp only [sI']at ho;subst ho;obtain⟨hp,hK⟩:=hK;have hK:K (.agg [.int .i64 (resC d e),.bool (X2 d e m),.int .i64 (X3 d e f)]) []:=hK;refine aFQ (cM' (E:=E20) (q:=bif !ieq e 5 then K (.agg [.int .i64 5,.bool false,.int .i64 0]) []else bif ieq d 1 then K (.agg [.int .i64 4,.bool false,.int .i64 0]) []else K (.agg [.int .i64 0,.bool m,.int .i64 f]) []) (by kernel_rfl) ?_)
 unfold resC X2 X3 at hK;generalize ieq e 5=b1 at hK⊢;generalize ieq d 1=b2 at hK⊢;cases b1<;>cases b2<;>exact hK
def G9:bO Ob:=fun args h=>match args,h with
 | [.agg [.int .i64 a,.int .i64 b,.int .i64 c,.int .i64 d,.bool m,.int .i64 e,.int .i64 f],.agg [.int .i64 g,.bool o,.int .i64 v]],[]=>some (True,.agg [.int .i64 a,.int .i64 0,.int .i64 0,.int .i64 (bif ieq g 4 then 1 else 0),.bool o,.int .i64 5,.int .i64 v])
 | _,_=>none
theorem QD:aG.ok E20.I Tryz.prog 114 G9.spec:=by
 intro args h o ho K hK;unfold bO.spec at ho;split at ho
 case h_2=>cases ho
 rename_i pp vv hv;unfold G9 at hv;split at hv
 case h_2=>cases hv
 rename_i a b c d m e f g o v;simp only [sI',pI']at hv;obtain⟨rfl,rfl⟩:=hv;simp only [sI']at ho;subst ho;obtain⟨hp,hK⟩:=hK;have hK:K (.agg [.int .i64 a,.int .i64 0,.int .i64 0,.int .i64 (bif ieq g 4 then 1 else 0),.bool o,.int .i64 5,.int .i64 v]) []:=hK;refine aFQ (cM' (E:=E20) (q:=bif ieq g 4 then K (.agg [.int .i64 a,.int .i64 0,.int .i64 0,.int .i64 1,.bool o,.int .i64 5,.int .i64 v]) []else K (.agg [.int .i64 a,.int .i64 0,.int .i64 0,.int .i64 0,.bool o,.int .i64 5,.int .i64 v]) []) (by kernel_rfl) ?_)
 generalize ieq g 4=b1 at hK⊢;cases b1<;>exact hK
noncomputable def E21a:=(((((E20.addR 214 H3 RW).addR 109 H8 R5).addR 107 SS X1).addR 114 G9 QD))
noncomputable def E21:=(E21a)
theorem eJ{s k y:Int} :a8 s k y=true↔(((s=1∨s=2)∧1≤k∧k≤3)∨((s=3∨s=4)∧(k=4∨k=5)))∧0≤y∧y≤999∧(k=5→y≤0):=by
 have hm:(bif ieq k 5 then(0:Int)else 999)=if k=5 then 0 else 999:=by
  rw [bI];by_cases h:k=5
  ·simp [h]
  ·have h':(k == 5)=false:=by simpa using h
   rw [h',if_neg h];rfl
 have hk:k∈eR s↔(((s=1∨s=2)∧1≤k∧k≤3)∨((s=3∨s=4)∧(k=4∨k=5))):=by
  unfold eR;rw [bI,bI,bI,bI]
  by_cases h1:s=1
  ·subst h1;simp;omega
  by_cases h2:s=2
  ·subst h2;simp;omega
  by_cases h3:s=3
  ·subst h3;simp
  by_cases h4:s=4
  ·subst h4;simp
  have g1:(s == 1)=false:=by simpa using h1
  have g2:(s == 2)=false:=by simpa using h2
  have g3:(s == 3)=false:=by simpa using h3
  have g4:(s == 4)=false:=by simpa using h4
  rw [g1,g2,g3,g4];simp [h1,h2,h3,h4]
 unfold a8;rw [Bool.and_eq_true,Bool.and_eq_true,gX,hk,bX,bX,dT',dT',hm]
 by_cases h5:k=5
 ·simp [h5];omega
 ·simp [h5]
def tskV(s k y:Int):Int:=s+8*k+64*y
def TE:bO Ob:=fun args h=>match args,h with
 | [.agg [.int .i64 s,.int .i64 k,.int .i64 y]],[]=>some (True,.tup [.int .u64 (bif a8 s k y then tskV s k y else 0),.int .i64 (bif a8 s k y then 0 else 1)])
 | _,_=>none
theorem YQ:aG.ok E21.I Tryz.prog 171 TE.spec:=by
 intro args h o ho K hK;unfold bO.spec at ho;split at ho
 case h_2=>cases ho
 rename_i pp vv hv;unfold TE at hv;split at hv
 case h_2=>cases hv
 rename_i s k y;simp only [sI',pI']at hv;obtain⟨rfl,rfl⟩:=hv;simp only [sI']at ho;subst ho;obtain⟨hp,hK⟩:=hK;have hK:K (.tup [.int .u64 (bif a8 s k y then tskV s k y else 0),.int .i64 (bif a8 s k y then 0 else 1)]) []:=hK;refine aFQ (cM' (E:=E21) (q:=True∧bif !a8 s k y then K (.tup [.int .u64 0,.int .i64 1]) []else(0:Int)≤(3:Int)∧(0:Int)≤(6:Int)∧K (.tup [.int .u64 (WU (W (↑(BitVec.toNat (BitVec.ofInt (IntKind.bits .i64) (W (↑(BitVec.toNat (BitVec.ofInt (IntKind.bits .i64) s|||BitVec.ofInt (IntKind.bits .i64) (W (k*2^min (Int.toNat 3) (IntKind.bits .i64))))):Int))|||BitVec.ofInt (IntKind.bits .i64) (W (y*2^min (Int.toNat 6) (IntKind.bits .i64))))):Int))),.int .i64 0]) []) (by kernel_rfl) ?_)
 refine⟨trivial,aL (fun e=>?_) (fun e=>⟨by omega,by omega,?_⟩)⟩
 ·rw [aCg e]at hK;exact hK
 ·have e:=aCf e;rw [e]at hK;have h:=eJ.1 e;refine cast (congrArg (fun z=>K (.tup [.int .u64 z,.int .i64 0]) []) ?_) hK;show tskV s k y=_;have hb:IntKind.bits .i64 =64:=rfl;rw [hb];have p3:(2:Int)^min (Int.toNat 3) 64=2^3:=by decide
  have p6:(2:Int)^min (Int.toNat 6) 64=2^6:=by decide
  have v3:(2:Int)^3=8:=by decide
  have v6:(2:Int)^6=64:=by decide
  have v64:(2:Int)^64=18446744073709551616:=by decide
  rw [p3,p6];have q1:=wR (n:=64) (a:=3) (x:=s) (y:=k) (by omega) (by omega) (by omega)
  have w1:W (k*2^3)=k*2^3:=vM (by omega)
  rw [w1,q1];have w2:W (s+k*2^3)=s+k*2^3:=vM (by omega)
  have w3:W (y*2^6)=y*2^6:=vM (by omega)
  have q2:=wR (n:=64) (a:=6) (x:=s+k*2^3) (y:=y) (by omega) (by omega) (by omega)
  rw [w2,w3,q2];have w4:W (s+k*2^3+y*2^6)=s+k*2^3+y*2^6:=vM (by omega)
  have w5:WU (s+k*2^3+y*2^6)=s+k*2^3+y*2^6:=i4 (by omega)
  rw [w4,w5,v3,v6];unfold tskV;omega
def aCb:bO Ob:=fun args h=>match args,h with
 | [.int .i64 s,.agg [.int .i64 k,.int .i64 y]],[]=>some (True,.bool (a8 s k y))
 | _,_=>none
theorem aCc:aG.ok E21.I Tryz.prog 16 aCb.spec:=by
 intro args h o ho K hK;unfold bO.spec at ho;split at ho
 case h_2=>cases ho
 rename_i pp vv hv;unfold aCb at hv;split at hv
 case h_2=>cases hv
 rename_i s k y;simp only [sI',pI']at hv;obtain⟨rfl,rfl⟩:=hv;simp only [sI']at ho;subst ho;obtain⟨hp,hK⟩:=hK;have hK:K (.bool (a8 s k y)) []:=hK;refine aFQ (cM' (E:=E21) (q:=bif ilt y 0 then K (.bool false) []else bif ilt 999 y then K (.bool false) []else bif ieq s 1 then bif ile 1 k then K (.bool (ile k 3)) []else K (.bool false) []else bif ieq s 2 then bif ile 1 k then K (.bool (ile k 3)) []else K (.bool false) []else bif ieq s 3 then bif ieq k 4 then K (.bool true) []else bif ieq k 5 then K (.bool (ieq y 0)) []else K (.bool false) []else bif ieq s 4 then bif ieq k 4 then K (.bool true) []else bif ieq k 5 then K (.bool (ieq y 0)) []else K (.bool false) []else K (.bool false) []) (by kernel_rfl) ?_)
 have hb: ∀v:Bool,a8 s k y=v→K (.bool v) []:=by intro v h;rw [←h];exact hK
 have yes:=(eJ (s:=s) (k:=k) (y:=y)).2
 have no: ¬((((s=1∨s=2)∧1≤k∧k≤3)∨((s=3∨s=4)∧(k=4∨k=5)))∧0≤y∧y≤999∧(k=5→y≤0))→a8 s k y=false:=by
  intro h;cases e:a8 s k y with
  | false=>rfl
  | true=>exact(h (eJ.1 e)).elim
 have hle: ∀a b:Int,K (.bool (ile a b)) []∨ ¬K (.bool (ile a b)) []:=fun _ _=>Classical.em _
 repeat' first
  | refine nE (fun _=>?_) (fun _=>?_)
  | refine uQ (fun _=>?_) (fun _=>?_)
  | refine JJ (fun _=>?_) (fun _=>?_)
 all_goals first
  | exact hb _ (no (by omega))
  | exact hb _ (yes (by omega))
  | (rw [bX];by_cases c:k≤3
     ·rw [decide_eq_true c];exact hb _ (yes (by omega))
     ·rw [decide_eq_false c];exact hb _ (no (by omega)))
  | (rw [bI];by_cases c:y=0
     ·subst c;exact hb _ (yes (by omega))
     ·have c':(y == 0)=false:=by simpa using c
      rw [c'];exact hb _ (no (by omega)))
noncomputable def E22a:=((E21.addR 171 TE YQ)).addR 16 aCb aCc
def iU(x:Int):Bool:=ilt x 65536&&a8 (aA x 0 3) (aA x 3 3) (aA x 6 10)
theorem AM{z:Int}(w:Nat)(hw:w≤61){c:Int}(hc:c=2^w - 1):IntKind.wrap .i64 (IntKind.wrap .u64 ((BitVec.ofInt 64 z&&&BitVec.ofInt 64 c).toNat :Int))=z%2^w:=by
 subst hc;rw [jR _ (by omega)]
 have h4:=jH w;have h3:(2:Int)^w≤2305843009213693952:=B5 (n:=61) hw (by decide)
 have h6:=Int.emod_nonneg z (b:=2^w) (by omega)
 have h7:=Int.emod_lt_of_pos z (b:=2^w) (by omega)
 rw [i4 (by omega),cJ (by omega)]
def TB:bO Ob:=fun args h=>match args,h with
 | [.int .u64 x],[]=>some (0≤x∧x≤18446744073709551615,.tup [.agg [.int .i64 (bif iU x then aA x 0 3 else 0),.int .i64 (bif iU x then aA x 3 3 else 0),.int .i64 (bif iU x then aA x 6 10 else 0)],.int .i64 (bif iU x then 0 else 3)])
 | _,_=>none
theorem YN:aG.ok E22a.I Tryz.prog 173 TB.spec:=by
 intro args h o ho K hK;unfold bO.spec at ho;split at ho
 case h_2=>cases ho
 rename_i pp vv hv;unfold TB at hv;split at hv
 case h_2=>cases hv
 rename_i x;simp only [sI',pI']at hv;obtain⟨rfl,rfl⟩:=hv;simp only [sI']at ho;subst ho;obtain⟨hp,hK⟩:=hK;have hK:K (.tup [.agg [.int .i64 (bif iU x then aA x 0 3 else 0),.int .i64 (bif iU x then aA x 3 3 else 0),.int .i64 (bif iU x then aA x 6 10 else 0)],.int .i64 (bif iU x then 0 else 3)]) []:=hK;refine aFQ (cM' (E:=E22a) (q:=(0:Int)≤(3:Int)∧(0:Int)≤(6:Int)∧(0:Int)≤(16:Int)∧bif !ieq (Int.fdiv x (2^min (Int.toNat 16) (IntKind.bits .u64))) 0 then K (.tup [.agg [.int .i64 0,.int .i64 0,.int .i64 0],.int .i64 3]) []else True∧bif !a8 (W (WU (↑(BitVec.toNat (BitVec.ofInt (IntKind.bits .u64) x&&&BitVec.ofInt (IntKind.bits .u64) 7)):Int))) (W (WU (↑(BitVec.toNat (BitVec.ofInt (IntKind.bits .u64) (Int.fdiv x (2^min (Int.toNat 3) (IntKind.bits .u64)))&&&BitVec.ofInt (IntKind.bits .u64) 7)):Int))) (W (WU (↑(BitVec.toNat (BitVec.ofInt (IntKind.bits .u64) (Int.fdiv x (2^min (Int.toNat 6) (IntKind.bits .u64)))&&&BitVec.ofInt (IntKind.bits .u64) 1023)):Int)))then K (.tup [.agg [.int .i64 0,.int .i64 0,.int .i64 0],.int .i64 3]) []else K (.tup [.agg [.int .i64 (W (WU (↑(BitVec.toNat (BitVec.ofInt (IntKind.bits .u64) x&&&BitVec.ofInt (IntKind.bits .u64) 7)):Int))),.int .i64 (W (WU (↑(BitVec.toNat (BitVec.ofInt (IntKind.bits .u64) (Int.fdiv x (2^min (Int.toNat 3) (IntKind.bits .u64)))&&&BitVec.ofInt (IntKind.bits .u64) 7)):Int))),.int .i64 (W (WU (↑(BitVec.toNat (BitVec.ofInt (IntKind.bits .u64) (Int.fdiv x (2^min (Int.toNat 6) (IntKind.bits .u64)))&&&BitVec.ofInt (IntKind.bits .u64) 1023)):Int)))],.int .i64 0]) []) (by kernel_rfl) ?_)
 have hb:IntKind.bits .u64 =64:=rfl;have p3:(2:Int)^min (Int.toNat 3) 64=8:=by decide
 have p6:(2:Int)^min (Int.toNat 6) 64=64:=by decide
 have p16:(2:Int)^min (Int.toNat 16) 64=65536:=by decide
 have c0:aA x 0 3=x%2^3:=by unfold aA;show x / 1%8=x%8;omega
 have c1:aA x 3 3=Int.fdiv x 8%2^3:=by rw [Int.fdiv_eq_ediv_of_nonneg _ (by omega)];rfl
 have c2:aA x 6 10=Int.fdiv x 64%2^10:=by rw [Int.fdiv_eq_ediv_of_nonneg _ (by omega)];rfl
 rw [hb,p3,p6,p16];simp only [W,WU];rw [AM (z:=x) 3 (by omega) (c:=7) (by decide),AM (z:=Int.fdiv x 8) 3 (by omega) (c:=7) (by decide),AM (z:=Int.fdiv x 64) 10 (by omega) (c:=1023) (by decide),←c0,←c1,←c2]
 unfold iU at hK
 have e16:ieq (Int.fdiv x 65536) 0=ilt x 65536:=by
  rw [Int.fdiv_eq_ediv_of_nonneg _ (by omega),bI,bJ]
  by_cases h:x<65536
  ·rw [decide_eq_true h];simp;omega
  ·rw [decide_eq_false h];simp;omega
 rw [e16];generalize ilt x 65536=b1 at hK⊢;generalize a8 (aA x 0 3) (aA x 3 3) (aA x 6 10)=b2 at hK⊢;refine⟨by omega,by omega,by omega,?_⟩
 cases b1<;>cases b2<;>first | exact hK | exact⟨trivial,hK⟩
noncomputable def E22b:=(E22a.addR 173 TB YN)
def recNewS:aG Ob:=fun args h=>match args,h with
 | [.agg [.int .i64 t,.int .i64 n],.int .i64 me,.agg [.int .i64 s,.int .i64 k,.int .i64 y]],[]=>some (.ret (.ptr 0 0) [some (.cells [.int .i64 t,.int .i64 n,.int .u64 0,.int .i64 me,.int .i64 0,.int .u64 (bif a8 s k y then tskV s k y else 0),.bool (!a8 s k y),.int .u64 0])])
 | _,_=>none
theorem OM:aG.ok E22b.I Tryz.prog 104 recNewS:=by
 intro args h o ho K hK;unfold recNewS at ho;split at ho<;>cases ho
 rename_i t n me s k y;have hK:K (.ptr 0 0) [some (.cells [.int .i64 t,.int .i64 n,.int .u64 0,.int .i64 me,.int .i64 0,.int .u64 (bif a8 s k y then tskV s k y else 0),.bool (!a8 s k y),.int .u64 0])]:=hK;refine aFQ (cM' (E:=E22b) (q:=True∧K (.ptr 0 0) [some (.cells [.int .i64 t,.int .i64 n,.int .u64 0,.int .i64 me,.int .i64 0,.int .u64 (bif a8 s k y then tskV s k y else 0),.bool !ieq (bif a8 s k y then 0 else 1) 0,.int .u64 0])]) (by kernel_rfl) ?_)
 generalize a8 s k y=b at hK⊢;refine⟨trivial,?_⟩;cases b<;>exact hK
def pndB(xs:List Int)(t n a:Int):Bool:=ile 0 a&&(ilt a t&&kE (aA (aB xs (2*n+5+2*t+3*a+2)) 49 3))
def aCj:bO Ob:=fun args h=>match args,oH h with
 | [.ptr 0 0,.agg [.int .i64 t,.int .i64 n],.int .i64 a],some (l,s)=>some (l=s.xs.length∧(0≤t∧t≤100000)∧(0≤n∧n≤100000),.bool (pndB s.xs t n a))
 | _,_=>none
theorem aCk:aG.ok E22b.I Tryz.prog 121 aCj.spec:=by
 intro args h o ho K hK;unfold bO.spec at ho;split at ho
 case h_2=>cases ho
 rename_i pp vv hv;unfold aCj at hv;split at hv
 case h_2=>cases hv
 rename_i t n a l s hm;simp only [sI',pI']at hv;obtain⟨rfl,rfl⟩:=hv;simp only [sI']at ho;subst ho;obtain⟨⟨hl,ht,hn⟩,hK⟩:=hK;have hh:=jN hm hl;subst hh;have hK:K (.bool (pndB s.xs t n a)) (memH s):=hK;refine aFQ (cM' (E:=E22b) (q:=bif ile 0 a then bif ilt a t then(((0:Int)≤t∧t≤(100000:Int))∧((0:Int)≤n∧n≤(100000:Int))∧(-1099511627776:Int)≤a∧a≤(1099511627776:Int))∧(lE' s.3∧True)∧True∧True∧K (.bool (kE (aA (aB s.3 (2*n+5+2*t+3*a+2)) 49 3))) [some (.cells [.int .i64 s.1,.int .i64 s.2,.slice 1 0 s.3.length 1,.int .i64 s.4,.int .i64 s.5,.int .i64 s.6,.int .u64 s.7,.int .u64 s.8,.bool s.9]),some (.ints (some .u64) s.3)]else K (.bool false) [some (.cells [.int .i64 s.1,.int .i64 s.2,.slice 1 0 s.3.length 1,.int .i64 s.4,.int .i64 s.5,.int .i64 s.6,.int .u64 s.7,.int .u64 s.8,.bool s.9]),some (.ints (some .u64) s.3)]else K (.bool false) [some (.cells [.int .i64 s.1,.int .i64 s.2,.slice 1 0 s.3.length 1,.int .i64 s.4,.int .i64 s.5,.int .i64 s.6,.int .u64 s.7,.int .u64 s.8,.bool s.9]),some (.ints (some .u64) s.3)]) (by kernel_rfl) ?_)
 unfold pndB at hK;refine aL (fun e1=>aL (fun e2=>?_) (fun e2=>?_)) (fun e1=>?_)
 ·rw [e1,e2]at hK;rw [bX,dT']at e1;rw [bJ,dT']at e2;exact⟨by omega,⟨rfl,trivial⟩,trivial,trivial,hK⟩
 ·rw [e1,e2]at hK;exact hK
 ·rw [e1]at hK;exact hK
noncomputable def E22:=(E22b.addS 104 recNewS OM).addR 121 aCj aCk
noncomputable def E23:=E22
noncomputable def E24:=(((((E23)))))
def guardNewS:aG Ob:=fun args h=>match args,h with
 | [.agg [.int .i64 t,.int .i64 n],.slice 0 0 k 1],[some (.ints (some .i64) xs)]=>some (.pre (k=xs.length∧k≤1000000) (.ret (.ptr 1 0) [some (.ints (some .i64) xs),some (.cells [.int .i64 t,.int .i64 n,.raw (.slice none 0 0),.raw (.slice none 0 0),.slice 2 0 xs.length 1,.map 3,.int .i64 0,.raw (.pointer none)]),some (.ints (some .i64) xs),some (.imap .i64 none [])]))
 | _,_=>none
theorem DZ:aG.ok E24.I Tryz.prog 222 guardNewS:=by
 intro args h o ho K hK;unfold guardNewS at ho;split at ho<;>cases ho
 rename_i t n k xs;obtain⟨⟨rfl,hp⟩,hK⟩:=hK;refine aFQ (cM' (E:=E24) (q:=((lE' xs∧xs.length≤(4294967296:Nat))∧True)∧K (.ptr 1 0) [some (.ints (some .i64) xs),some (.cells [.int .i64 t,.int .i64 n,.raw (Value.slice none 0 0),.raw (Value.slice none 0 0),.slice 2 0 xs.length 1,.map 3,.int .i64 0,.raw (Value.pointer none)]),some (.ints (some .i64) xs),some (.imap .i64 none [])]) (by kernel_rfl) ?_)
 exact⟨⟨⟨rfl,by omega⟩,trivial⟩,hK⟩
def backS:aG Ob:=fun args h=>match args,h with
 | [.agg [.int .i64 t,.int .i64 n],.slice 0 0 k 1],[some (.ints (some .i64) xs)]=>some (.pre (k=xs.length∧k≤1000000) (.ret (.ptr 1 0) [some (.ints (some .i64) xs),some (.cells [.int .i64 t,.int .i64 n,.slice 2 0 xs.length 1]),some (.ints (some .i64) xs)]))
 | _,_=>none
theorem UI:aG.ok E24.I Tryz.prog 232 backS:=by
 intro args h o ho K hK;unfold backS at ho;split at ho<;>cases ho
 rename_i t n k xs;obtain⟨⟨rfl,hp⟩,hK⟩:=hK;refine aFQ (cM' (E:=E24) (q:=((lE' xs∧xs.length≤(4294967296:Nat))∧True)∧K (.ptr 1 0) [some (.ints (some .i64) xs),some (.cells [.int .i64 t,.int .i64 n,.slice 2 0 xs.length 1]),some (.ints (some .i64) xs)]) (by kernel_rfl) ?_)
 exact⟨⟨⟨rfl,by omega⟩,trivial⟩,hK⟩
noncomputable def E35a:=(E24.addS 222 guardNewS DZ).addS 232 backS UI
def mhas(m:List (Int×Int))(n:Int):Bool:=!ieq (Option.getD (mget m n) 0) 0
def cK(m:List (Int×Int))(xs:List Int):List Int:=xs.filter (mhas m)
def aX(m:List (Int×Int))(xs:List Int):List Int:=xs.filter (fun n=>!mhas m n)
structure aEw (m:List (Int×Int)) (xs:List Int) (x:Nat×List Int×List Int):Prop where
 h1:x.1≤xs.length
 h2:x.2.1=cK m (xs.take x.1)
 h3:x.2.2=aX m (xs.take x.1)
def F4(t n at':Int)(m:List (Int×Int))(xs:List Int):Hint Ob:= {X:=Nat×List Int×List Int,st:=fun x=>([.ptr 0 0,.O,.O,.O,.O,.O,.O,.O,.slice 1 0 xs.length 1,.int .i64 (xs.length:Int),.int .i64 (x.1:Int)]++List.replicate 48 .O,[some (.cells [.int .i64 t,.int .i64 n,.slice 3 0 x.2.1.length 1,.slice 4 0 x.2.2.length 1,.slice 1 0 xs.length 1,.map 2,.int .i64 at',.raw (.pointer none)]),some (.ints (some .i64) xs),some (.imap .i64 none m),some (.ints (some .i64) x.2.1),some (.ints (some .i64) x.2.2)]),ok:=aEw m xs,mu:=fun x=>xs.length - x.1,keep:=[0,8,9,10],casts:=[(.cell 0 2,.ints (some .i64)),(.cell 0 3,.ints (some .i64))] }
def partsS:aG Ob:=fun args h=>match args,h with
 | [.ptr 0 0],[some (.cells [.int .i64 t,.int .i64 n,.raw (.slice none 0 0),.raw (.slice none 0 0),.slice 1 0 k 1,.map 2,.int .i64 at',.raw (.pointer none)]),some (.ints (some .i64) xs),some (.imap .i64 none m)]=>some (.pre (k=xs.length∧k≤1000000) (.ret (.bool (ieq ((aX m xs).length :Int) 0)) [some (.cells [.int .i64 t,.int .i64 n,.slice 3 0 (cK m xs).length 1,.slice 4 0 (aX m xs).length 1,.slice 1 0 xs.length 1,.map 2,.int .i64 at',.ptr 5 0]),some (.ints (some .i64) xs),some (.imap .i64 none m),some (.ints (some .i64) (cK m xs)),some (.ints (some .i64) (aX m xs)),some (.cells [.int .i64 t,.int .i64 n,.slice 6 0 (aX m xs).length 1]),some (.ints (some .i64) (aX m xs))]))
 | _,_=>none
theorem wD(p:Int→Bool)(xs:List Int):(xs.filter p).length ≤xs.length:=List.length_filter_le p xs
theorem R3:aG.ok E35a.I Tryz.prog 228 partsS:=by
 intro args h o ho K hK;unfold partsS at ho;split at ho<;>cases ho
 rename_i t n k at' xs m;obtain⟨⟨rfl,hp⟩,hK⟩:=hK;refine aFQ (aE (E:=E35a) Tryz.checked.mixed (L:=fun _ _=>some (.states (F4 t n at' m xs))) (n:=10) (aN (q:=okSt (F4 t n at' m xs) (Hint.ok (F4 t n at' m xs)) (.ptr 0 0::.O::.O::.O::.O::.O::.O::.O::.slice 1 0 xs.length 1::.int .i64 (↑xs.length:Int)::.int .i64 0::(tO' 48 [])) [some (.cells [.int .i64 t,.int .i64 n,.slice 3 0 0 1,.slice 4 0 0 1,.slice 1 0 xs.length 1,.map 2,.int .i64 at',.raw (Value.pointer none)]),some (.ints (some .i64) xs),some (.imap .i64 none m),some (.ints (some .i64) []),some (.ints (some .i64) [])]∧ ∀(x:(Nat×List Int×List Int)),aEw m xs x→bif ilt (↑x.1:Int) (↑xs.length:Int)then((0:Int)≤(↑x.1:Int)∧(↑x.1:Int)<(↑xs.length:Int))∧0+Int.toNat (↑x.1:Int)*(1:Nat)<xs.length∧bif !ieq (Option.getD (mget m (List.getD xs (0+Int.toNat (↑x.1:Int)*1) 0)) 0) 0 then(0=0∧lE' (Prod.snd x).1∧1=1∧List.length (Prod.snd x).1+(1:Nat)≤(4294967296:Nat))∧okSt (F4 t n at' m xs) (fun x'=>Hint.ok (F4 t n at' m xs) x'∧Hint.mu (F4 t n at' m xs) x'<Hint.mu (F4 t n at' m xs) x) (.ptr 0 0::.O::.O::.O::.O::.O::.O::.O::.slice 1 0 xs.length 1::.int .i64 (↑xs.length:Int)::.int .i64 (W ((↑x.1:Int)+1))::(tO' 48 [])) [some (.cells [.int .i64 t,.int .i64 n,.slice 3 0 (List.length (Prod.snd x).1+1) 1,.slice 4 0 (List.length (Prod.snd x).2) 1,.slice 1 0 xs.length 1,.map 2,.int .i64 at',.raw (Value.pointer none)]),some (.ints (some .i64) xs),some (.imap .i64 none m),some (.ints (some .i64) ((Prod.snd x).1++ [List.getD xs (0+Int.toNat (↑x.1:Int)*1) 0])),some (.ints (some .i64) (Prod.snd x).2)]else(0=0∧lE' (Prod.snd x).2∧1=1∧List.length (Prod.snd x).2+(1:Nat)≤(4294967296:Nat))∧okSt (F4 t n at' m xs) (fun x'=>Hint.ok (F4 t n at' m xs) x'∧Hint.mu (F4 t n at' m xs) x'<Hint.mu (F4 t n at' m xs) x) (.ptr 0 0::.O::.O::.O::.O::.O::.O::.O::.slice 1 0 xs.length 1::.int .i64 (↑xs.length:Int)::.int .i64 (W ((↑x.1:Int)+1))::(tO' 48 [])) [some (.cells [.int .i64 t,.int .i64 n,.slice 3 0 (List.length (Prod.snd x).1) 1,.slice 4 0 (List.length (Prod.snd x).2+1) 1,.slice 1 0 xs.length 1,.map 2,.int .i64 at',.raw (Value.pointer none)]),some (.ints (some .i64) xs),some (.imap .i64 none m),some (.ints (some .i64) (Prod.snd x).1),some (.ints (some .i64) ((Prod.snd x).2++ [List.getD xs (0+Int.toNat (↑x.1:Int)*1) 0]))]else((lE' (Prod.snd x).2∧List.length (Prod.snd x).2≤(1000000:Nat))∧True)∧K (.bool (ieq (↑(List.length (Prod.snd x).2):Int) 0)) [some (.cells [.int .i64 t,.int .i64 n,.slice 3 0 (List.length (Prod.snd x).1) 1,.slice 4 0 (List.length (Prod.snd x).2) 1,.slice 1 0 xs.length 1,.map 2,.int .i64 at',.ptr 5 0]),some (.ints (some .i64) xs),some (.imap .i64 none m),some (.ints (some .i64) (Prod.snd x).1),some (.ints (some .i64) (Prod.snd x).2),some (.cells [.int .i64 t,.int .i64 n,.slice 6 0 (List.length (Prod.snd x).2) 1]),some (.ints (some .i64) (Prod.snd x).2)]) (by kernel_rfl) ?_))
 refine⟨aK (H:=F4 t n at' m xs) ((0:Nat),([]:List Int),([]:List Int)) rfl ⟨Nat.zero_le _,rfl,rfl⟩,?_⟩;rintro⟨i,ks,fs⟩ ⟨h1,h2,h3⟩;dsimp only at h1 h2 h3⊢;refine nE (fun hi=>?_) (fun hi=>?_)
 ·have hi':i<xs.length:=by omega
  have e2:0+(i:Int).toNat *1=i:=by omega
  have hg:xs.getD i 0=xs[i]:=by rw [gD',gE' hi'];rfl
  have e4:W ((i:Int)+1)=((i+1:Nat):Int):=by rw [vM (by omega)];rfl
  have hk:cK m (xs.take (i+1))=ks++(bif mhas m xs[i]then [xs[i]]else []):=by
   rw [h2];unfold cK;rw [List.take_succ_eq_append_getElem hi',List.filter_append];cases hm:mhas m xs[i]<;>simp [hm]
  have hf:aX m (xs.take (i+1))=fs++(bif mhas m xs[i]then []else [xs[i]]):=by
   rw [h3];unfold aX;rw [List.take_succ_eq_append_getElem hi',List.filter_append];cases hm:mhas m xs[i]<;>simp [hm]
  have hkl:ks.length≤xs.length:=by rw [h2];exact Nat.le_trans (wD _ _) (by simp;omega)
  have hfl:fs.length≤xs.length:=by rw [h3];exact Nat.le_trans (wD _ _) (by simp;omega)
  have hmu:xs.length - (i+1)<xs.length - i:=by omega
  rw [e2,e4,hg];have hd:(!ieq (Option.getD (mget m xs[i]) 0) 0)=mhas m xs[i]:=rfl;rw [hd];refine⟨by omega,by omega,aL (fun hm=>⟨⟨rfl,rfl,rfl,by omega⟩,?_⟩) (fun hm=>⟨⟨rfl,rfl,rfl,by omega⟩,?_⟩)⟩
  ·rw [hm]at hk hf;simp only [cond_true,List.append_nil]at hk hf;exact aK (H:=F4 t n at' m xs) ((i+1:Nat),ks++ [xs[i]],fs) (by simp only [F4,List.length_append]<;>rfl) ⟨⟨hi',hk.symm,hf.symm⟩,hmu⟩
  ·rw [hm]at hk hf;simp only [cond_false,List.append_nil]at hk hf;exact aK (H:=F4 t n at' m xs) ((i+1:Nat),ks,fs++ [xs[i]]) (by simp only [F4,List.length_append]<;>rfl) ⟨⟨hi',hk.symm,hf.symm⟩,hmu⟩
 ·rw [List.take_of_length_le (by omega)]at h2 h3
  subst h2 h3;have:=wD (fun n=>!mhas m n) xs;refine⟨⟨⟨rfl,?_⟩,trivial⟩,hK⟩;show(aX m xs).length ≤1000000;unfold aX;omega
noncomputable def E35:=E35a.addS 228 partsS R3
end Go.Sh
