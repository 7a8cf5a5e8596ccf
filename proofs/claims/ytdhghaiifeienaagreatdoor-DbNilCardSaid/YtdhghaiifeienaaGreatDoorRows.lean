/-
  NARROWER THAN 'FOR EVERY INPUT', by the rows' own cells (each row's printed sentence says how): ClaimOlder: laid · ClaimApart: laid · ClaimNil: laid · ClaimPlays: laid · DbFull: laid · DbOwn: laid · DbRefers: laid · ClaimSure: laid · DbWhole: laid · DbCloses: laid · DbPlays: laid · DbNil: laid.
  DERIVED. THE GIVEN ROWS OF THIS SEAT. 12 by the template 'for every input the law returns true; each argument reads behind the call as it read before'; 0 by the template 'total and deterministic' (their statements: YtdhghaiifeienaaGreatDoorTotals.lean).
  GIVEN WITH THE SEED: the statements are not yours to turn. If you find one false, say at which input.
  Laid BY PROGRAM, IN A SANDBOX (cutbox-rows.mjs): the forced cells as the released guide's own fill.sh prints them over the translation c0e6b62f2804dfc1… (all of the seat's roots in one cut). By AI agents, Wed Nov 11 2026. No macro, syntax, notation, axiom, sorry.
-/
import Derived.Test.YtdhghaiifeienaaGreatDoorChecked
import GoSem.PinnedTables
import GoSem.Claim
import GoSem.ClaimJoined
import GoSem.ClaimMapViews
import Derived.JoinedTies
import Derived.KernelRfl
namespace Go.Proofs.YtdhghaiifeienaaGreatDoor
/- THE CELL 'sum', in the pinned program and in every row, IS THE sha256 OF THE DUMP (.gsa) THAT YtdhghaiifeienaaGreatDoorProg.lean LOADS. Nothing in Lean hashes anything: it is a label: what it is worth is what the hold of that sum in a sandbox is worth. -/
noncomputable def Tryz.pinned : Pinned := { name := "ytdhghaiifeienaagreatdoor", sum := "c0e6b62f2804dfc165f9fcc91656ff012d97d4c5bfec6ec58c1825d0ffca4de2", checked := Tryz.checked }
namespace Rows
def none {H : Type} : Left H := { results := [], args := [] }

/- WHAT THE LISTED PACKAGE-LEVEL VARIABLES READ AS WHEN THE CALL BEGINS. Each datum BY PROGRAM (the guide's laid-datum.mjs) off the statement by which the dump's own 'gosem.cut.vars' lays the variable. In a bare row this is a premise. The card (YtdhghaiifeienaaGreatDoorCards.lean) ties it to the program's text. -/
def laid_godown_hash_first {H : Type} : DataW H := .agg [.lit (.int .u32 1779033703), .lit (.int .u32 3144134277), .lit (.int .u32 1013904242), .lit (.int .u32 2773480762), .lit (.int .u32 1359893119), .lit (.int .u32 2600822924), .lit (.int .u32 528734635), .lit (.int .u32 1541459225)]
def laid_godown_hash_keys {H : Type} : DataW H := .agg [.lit (.int .u32 1116352408), .lit (.int .u32 1899447441), .lit (.int .u32 3049323471), .lit (.int .u32 3921009573), .lit (.int .u32 961987163), .lit (.int .u32 1508970993), .lit (.int .u32 2453635748), .lit (.int .u32 2870763221), .lit (.int .u32 3624381080), .lit (.int .u32 310598401), .lit (.int .u32 607225278), .lit (.int .u32 1426881987), .lit (.int .u32 1925078388), .lit (.int .u32 2162078206), .lit (.int .u32 2614888103), .lit (.int .u32 3248222580), .lit (.int .u32 3835390401), .lit (.int .u32 4022224774), .lit (.int .u32 264347078), .lit (.int .u32 604807628), .lit (.int .u32 770255983), .lit (.int .u32 1249150122), .lit (.int .u32 1555081692), .lit (.int .u32 1996064986), .lit (.int .u32 2554220882), .lit (.int .u32 2821834349), .lit (.int .u32 2952996808), .lit (.int .u32 3210313671), .lit (.int .u32 3336571891), .lit (.int .u32 3584528711), .lit (.int .u32 113926993), .lit (.int .u32 338241895), .lit (.int .u32 666307205), .lit (.int .u32 773529912), .lit (.int .u32 1294757372), .lit (.int .u32 1396182291), .lit (.int .u32 1695183700), .lit (.int .u32 1986661051), .lit (.int .u32 2177026350), .lit (.int .u32 2456956037), .lit (.int .u32 2730485921), .lit (.int .u32 2820302411), .lit (.int .u32 3259730800), .lit (.int .u32 3345764771), .lit (.int .u32 3516065817), .lit (.int .u32 3600352804), .lit (.int .u32 4094571909), .lit (.int .u32 275423344), .lit (.int .u32 430227734), .lit (.int .u32 506948616), .lit (.int .u32 659060556), .lit (.int .u32 883997877), .lit (.int .u32 958139571), .lit (.int .u32 1322822218), .lit (.int .u32 1537002063), .lit (.int .u32 1747873779), .lit (.int .u32 1955562222), .lit (.int .u32 2024104815), .lit (.int .u32 2227730452), .lit (.int .u32 2361852424), .lit (.int .u32 2428436474), .lit (.int .u32 2756734187), .lit (.int .u32 3204031479), .lit (.int .u32 3329325298)]
def laid_unicode_utf8_acceptRanges {H : Type} : DataW H := .agg [.agg [.lit (.int .u8 128), .lit (.int .u8 191)], .agg [.lit (.int .u8 160), .lit (.int .u8 191)], .agg [.lit (.int .u8 128), .lit (.int .u8 159)], .agg [.lit (.int .u8 144), .lit (.int .u8 191)], .agg [.lit (.int .u8 128), .lit (.int .u8 143)], .agg [.lit (.int .u8 0), .lit (.int .u8 0)], .agg [.lit (.int .u8 0), .lit (.int .u8 0)], .agg [.lit (.int .u8 0), .lit (.int .u8 0)], .agg [.lit (.int .u8 0), .lit (.int .u8 0)], .agg [.lit (.int .u8 0), .lit (.int .u8 0)], .agg [.lit (.int .u8 0), .lit (.int .u8 0)], .agg [.lit (.int .u8 0), .lit (.int .u8 0)], .agg [.lit (.int .u8 0), .lit (.int .u8 0)], .agg [.lit (.int .u8 0), .lit (.int .u8 0)], .agg [.lit (.int .u8 0), .lit (.int .u8 0)], .agg [.lit (.int .u8 0), .lit (.int .u8 0)]]
/-- One of Go's own tables, pinned by name: the form's constant. -/
def laid_unicode_utf8_first : DataW Unit := Go.Pinned.utf8First

/-- 'godownlaw16.ClaimOlder': WHATEVER THE INPUT: true; the input reads as it did. -/
def claimOlderSpec : ChangeSpec := { name := "claimOlder", fn := fun _ => fun
  | [d1, d2, d3] => { results := [.lit (.bool true)], args := [d1, d2, d3] }
  | _ => none }
def claimOlderRow : OpenClaim := { program := "ytdhghaiifeienaagreatdoor", sum := "c0e6b62f2804dfc165f9fcc91656ff012d97d4c5bfec6ec58c1825d0ffca4de2", func := "godown/godownlaw16.ClaimOlder", spec := "claimOlder", inPlace := ["internal/bytealg.IndexByteString", "internal/bytealg.IndexString", "internal/abi.NoEscape", "math.Float64bits"], unfollowed := true, recurses := true, named := ["unicode/utf8.first", "unicode/utf8.acceptRanges", "godown/hash.first", "godown/hash.keys", "internal/bytealg.MaxLen"], apart := false, laid := [("godown/hash.first", laid_godown_hash_first), ("godown/hash.keys", laid_godown_hash_keys), ("unicode/utf8.acceptRanges", laid_unicode_utf8_acceptRanges), ("unicode/utf8.first", laid_unicode_utf8_first)] }
def ClaimOlderSaid : Prop := claimOlderRow.holds Tryz.pinned (OpenSpec.ofChange claimOlderSpec)

/-- ITS FALSE NEIGHBOUR: 'it returns false'. Refute it at one input. -/
def claimOlderWrong : ChangeSpec := { name := "claimOlder", fn := fun _ => fun
  | [d1, d2, d3] => { results := [.lit (.bool false)], args := [d1, d2, d3] }
  | _ => none }
def ClaimOlderWrongFalsely : Prop := claimOlderRow.holds Tryz.pinned (OpenSpec.ofChange claimOlderWrong)

/-- 'godownlaw16.ClaimApart': WHATEVER THE INPUT: true; the input reads as it did. -/
def claimApartSpec : ChangeSpec := { name := "claimApart", fn := fun _ => fun
  | [d1, d2, d3, d4] => { results := [.lit (.bool true)], args := [d1, d2, d3, d4] }
  | _ => none }
def claimApartRow : OpenClaim := { program := "ytdhghaiifeienaagreatdoor", sum := "c0e6b62f2804dfc165f9fcc91656ff012d97d4c5bfec6ec58c1825d0ffca4de2", func := "godown/godownlaw16.ClaimApart", spec := "claimApart", inPlace := ["internal/bytealg.IndexByteString", "internal/bytealg.IndexString", "internal/abi.NoEscape"], unfollowed := true, recurses := true, named := ["unicode/utf8.first", "unicode/utf8.acceptRanges", "godown/hash.first", "godown/hash.keys", "internal/bytealg.MaxLen"], apart := false, laid := [("godown/hash.first", laid_godown_hash_first), ("godown/hash.keys", laid_godown_hash_keys), ("unicode/utf8.acceptRanges", laid_unicode_utf8_acceptRanges), ("unicode/utf8.first", laid_unicode_utf8_first)] }
def ClaimApartSaid : Prop := claimApartRow.holds Tryz.pinned (OpenSpec.ofChange claimApartSpec)

/-- ITS FALSE NEIGHBOUR: 'it returns false'. Refute it at one input. -/
def claimApartWrong : ChangeSpec := { name := "claimApart", fn := fun _ => fun
  | [d1, d2, d3, d4] => { results := [.lit (.bool false)], args := [d1, d2, d3, d4] }
  | _ => none }
def ClaimApartWrongFalsely : Prop := claimApartRow.holds Tryz.pinned (OpenSpec.ofChange claimApartWrong)

/-- 'godownlaw16.ClaimNil': WHATEVER THE INPUT: true; the input reads as it did. -/
def claimNilSpec : ChangeSpec := { name := "claimNil", fn := fun _ => fun
  | [d1, d2, d3] => { results := [.lit (.bool true)], args := [d1, d2, d3] }
  | _ => none }
def claimNilRow : OpenClaim := { program := "ytdhghaiifeienaagreatdoor", sum := "c0e6b62f2804dfc165f9fcc91656ff012d97d4c5bfec6ec58c1825d0ffca4de2", func := "godown/godownlaw16.ClaimNil", spec := "claimNil", inPlace := ["internal/bytealg.IndexByteString", "internal/bytealg.IndexString", "internal/abi.NoEscape"], unfollowed := true, recurses := true, named := ["unicode/utf8.first", "unicode/utf8.acceptRanges", "godown/hash.first", "godown/hash.keys", "internal/bytealg.MaxLen"], apart := false, laid := [("godown/hash.first", laid_godown_hash_first), ("godown/hash.keys", laid_godown_hash_keys), ("unicode/utf8.acceptRanges", laid_unicode_utf8_acceptRanges), ("unicode/utf8.first", laid_unicode_utf8_first)] }
def ClaimNilSaid : Prop := claimNilRow.holds Tryz.pinned (OpenSpec.ofChange claimNilSpec)

/-- ITS FALSE NEIGHBOUR: 'it returns false'. Refute it at one input. -/
def claimNilWrong : ChangeSpec := { name := "claimNil", fn := fun _ => fun
  | [d1, d2, d3] => { results := [.lit (.bool false)], args := [d1, d2, d3] }
  | _ => none }
def ClaimNilWrongFalsely : Prop := claimNilRow.holds Tryz.pinned (OpenSpec.ofChange claimNilWrong)

/-- 'godownlaw16.ClaimPlays': WHATEVER THE INPUT: true; the input reads as it did. -/
def claimPlaysSpec : ChangeSpec := { name := "claimPlays", fn := fun _ => fun
  | [d1, d2] => { results := [.lit (.bool true)], args := [d1, d2] }
  | _ => none }
def claimPlaysRow : OpenClaim := { program := "ytdhghaiifeienaagreatdoor", sum := "c0e6b62f2804dfc165f9fcc91656ff012d97d4c5bfec6ec58c1825d0ffca4de2", func := "godown/godownlaw16.ClaimPlays", spec := "claimPlays", inPlace := ["internal/bytealg.IndexByteString", "internal/bytealg.IndexString", "internal/abi.NoEscape", "math.Float64bits"], unfollowed := true, recurses := true, named := ["unicode/utf8.first", "unicode/utf8.acceptRanges", "godown/hash.first", "godown/hash.keys", "internal/bytealg.MaxLen"], apart := false, laid := [("godown/hash.first", laid_godown_hash_first), ("godown/hash.keys", laid_godown_hash_keys), ("unicode/utf8.acceptRanges", laid_unicode_utf8_acceptRanges), ("unicode/utf8.first", laid_unicode_utf8_first)] }
def ClaimPlaysSaid : Prop := claimPlaysRow.holds Tryz.pinned (OpenSpec.ofChange claimPlaysSpec)

/-- ITS FALSE NEIGHBOUR: 'it returns false'. Refute it at one input. -/
def claimPlaysWrong : ChangeSpec := { name := "claimPlays", fn := fun _ => fun
  | [d1, d2] => { results := [.lit (.bool false)], args := [d1, d2] }
  | _ => none }
def ClaimPlaysWrongFalsely : Prop := claimPlaysRow.holds Tryz.pinned (OpenSpec.ofChange claimPlaysWrong)

/-- 'godownlaw10.DbFull': WHATEVER THE INPUT: true; the input reads as it did. -/
def dbFullSpec : ChangeSpec := { name := "dbFull", fn := fun _ => fun
  | [d] => { results := [.lit (.bool true)], args := [d] }
  | _ => none }
def dbFullRow : OpenClaim := { program := "ytdhghaiifeienaagreatdoor", sum := "c0e6b62f2804dfc165f9fcc91656ff012d97d4c5bfec6ec58c1825d0ffca4de2", func := "godown/godownlaw10.DbFull", spec := "dbFull", inPlace := ["internal/bytealg.IndexByteString", "internal/bytealg.IndexString", "internal/abi.NoEscape"], unfollowed := true, recurses := true, named := ["unicode/utf8.first", "unicode/utf8.acceptRanges", "godown/hash.first", "godown/hash.keys", "internal/bytealg.MaxLen"], apart := false, laid := [("godown/hash.first", laid_godown_hash_first), ("godown/hash.keys", laid_godown_hash_keys), ("unicode/utf8.acceptRanges", laid_unicode_utf8_acceptRanges), ("unicode/utf8.first", laid_unicode_utf8_first)] }
def DbFullSaid : Prop := dbFullRow.holds Tryz.pinned (OpenSpec.ofChange dbFullSpec)

/-- ITS FALSE NEIGHBOUR: 'it returns false'. Refute it at one input. -/
def dbFullWrong : ChangeSpec := { name := "dbFull", fn := fun _ => fun
  | [d] => { results := [.lit (.bool false)], args := [d] }
  | _ => none }
def DbFullWrongFalsely : Prop := dbFullRow.holds Tryz.pinned (OpenSpec.ofChange dbFullWrong)

/-- 'godownlaw10.DbOwn': WHATEVER THE INPUT: true; the input reads as it did. -/
def dbOwnSpec : ChangeSpec := { name := "dbOwn", fn := fun _ => fun
  | [d1, d2] => { results := [.lit (.bool true)], args := [d1, d2] }
  | _ => none }
def dbOwnRow : OpenClaim := { program := "ytdhghaiifeienaagreatdoor", sum := "c0e6b62f2804dfc165f9fcc91656ff012d97d4c5bfec6ec58c1825d0ffca4de2", func := "godown/godownlaw10.DbOwn", spec := "dbOwn", inPlace := ["internal/bytealg.IndexByteString", "internal/bytealg.IndexString", "internal/abi.NoEscape", "math.Float64bits"], unfollowed := true, recurses := true, named := ["unicode/utf8.first", "unicode/utf8.acceptRanges", "godown/hash.first", "godown/hash.keys", "internal/bytealg.MaxLen"], apart := false, laid := [("godown/hash.first", laid_godown_hash_first), ("godown/hash.keys", laid_godown_hash_keys), ("unicode/utf8.acceptRanges", laid_unicode_utf8_acceptRanges), ("unicode/utf8.first", laid_unicode_utf8_first)] }
def DbOwnSaid : Prop := dbOwnRow.holds Tryz.pinned (OpenSpec.ofChange dbOwnSpec)

/-- ITS FALSE NEIGHBOUR: 'it returns false'. Refute it at one input. -/
def dbOwnWrong : ChangeSpec := { name := "dbOwn", fn := fun _ => fun
  | [d1, d2] => { results := [.lit (.bool false)], args := [d1, d2] }
  | _ => none }
def DbOwnWrongFalsely : Prop := dbOwnRow.holds Tryz.pinned (OpenSpec.ofChange dbOwnWrong)

/-- 'godownlaw10.DbRefers': WHATEVER THE INPUT: true; the input reads as it did. -/
def dbRefersSpec : ChangeSpec := { name := "dbRefers", fn := fun _ => fun
  | [d1, d2] => { results := [.lit (.bool true)], args := [d1, d2] }
  | _ => none }
def dbRefersRow : OpenClaim := { program := "ytdhghaiifeienaagreatdoor", sum := "c0e6b62f2804dfc165f9fcc91656ff012d97d4c5bfec6ec58c1825d0ffca4de2", func := "godown/godownlaw10.DbRefers", spec := "dbRefers", inPlace := ["internal/bytealg.IndexByteString", "internal/bytealg.IndexString", "internal/abi.NoEscape", "math.Float64bits"], unfollowed := true, recurses := true, named := ["unicode/utf8.first", "unicode/utf8.acceptRanges", "godown/hash.first", "godown/hash.keys", "internal/bytealg.MaxLen"], apart := false, laid := [("godown/hash.first", laid_godown_hash_first), ("godown/hash.keys", laid_godown_hash_keys), ("unicode/utf8.acceptRanges", laid_unicode_utf8_acceptRanges), ("unicode/utf8.first", laid_unicode_utf8_first)] }
def DbRefersSaid : Prop := dbRefersRow.holds Tryz.pinned (OpenSpec.ofChange dbRefersSpec)

/-- ITS FALSE NEIGHBOUR: 'it returns false'. Refute it at one input. -/
def dbRefersWrong : ChangeSpec := { name := "dbRefers", fn := fun _ => fun
  | [d1, d2] => { results := [.lit (.bool false)], args := [d1, d2] }
  | _ => none }
def DbRefersWrongFalsely : Prop := dbRefersRow.holds Tryz.pinned (OpenSpec.ofChange dbRefersWrong)

/-- 'godownlaw16.ClaimSure': WHATEVER THE INPUT: true; the input reads as it did. -/
def claimSureSpec : ChangeSpec := { name := "claimSure", fn := fun _ => fun
  | [d1, d2] => { results := [.lit (.bool true)], args := [d1, d2] }
  | _ => none }
def claimSureRow : OpenClaim := { program := "ytdhghaiifeienaagreatdoor", sum := "c0e6b62f2804dfc165f9fcc91656ff012d97d4c5bfec6ec58c1825d0ffca4de2", func := "godown/godownlaw16.ClaimSure", spec := "claimSure", inPlace := ["internal/bytealg.IndexByteString", "internal/bytealg.IndexString", "internal/abi.NoEscape", "math.Float64bits"], unfollowed := true, recurses := true, named := ["unicode/utf8.first", "unicode/utf8.acceptRanges", "godown/hash.first", "godown/hash.keys", "internal/bytealg.MaxLen"], apart := false, laid := [("godown/hash.first", laid_godown_hash_first), ("godown/hash.keys", laid_godown_hash_keys), ("unicode/utf8.acceptRanges", laid_unicode_utf8_acceptRanges), ("unicode/utf8.first", laid_unicode_utf8_first)] }
def ClaimSureSaid : Prop := claimSureRow.holds Tryz.pinned (OpenSpec.ofChange claimSureSpec)

/-- ITS FALSE NEIGHBOUR: 'it returns false'. Refute it at one input. -/
def claimSureWrong : ChangeSpec := { name := "claimSure", fn := fun _ => fun
  | [d1, d2] => { results := [.lit (.bool false)], args := [d1, d2] }
  | _ => none }
def ClaimSureWrongFalsely : Prop := claimSureRow.holds Tryz.pinned (OpenSpec.ofChange claimSureWrong)

/-- 'godownlaw10.DbWhole': WHATEVER THE INPUT: true; the input reads as it did. -/
def dbWholeSpec : ChangeSpec := { name := "dbWhole", fn := fun _ => fun
  | [d1, d2, d3] => { results := [.lit (.bool true)], args := [d1, d2, d3] }
  | _ => none }
def dbWholeRow : OpenClaim := { program := "ytdhghaiifeienaagreatdoor", sum := "c0e6b62f2804dfc165f9fcc91656ff012d97d4c5bfec6ec58c1825d0ffca4de2", func := "godown/godownlaw10.DbWhole", spec := "dbWhole", inPlace := ["internal/bytealg.IndexByteString", "internal/bytealg.IndexString", "internal/abi.NoEscape", "math.Float64bits"], unfollowed := true, recurses := true, named := ["unicode/utf8.first", "unicode/utf8.acceptRanges", "godown/hash.first", "godown/hash.keys", "internal/bytealg.MaxLen"], apart := false, laid := [("godown/hash.first", laid_godown_hash_first), ("godown/hash.keys", laid_godown_hash_keys), ("unicode/utf8.acceptRanges", laid_unicode_utf8_acceptRanges), ("unicode/utf8.first", laid_unicode_utf8_first)] }
def DbWholeSaid : Prop := dbWholeRow.holds Tryz.pinned (OpenSpec.ofChange dbWholeSpec)

/-- ITS FALSE NEIGHBOUR: 'it returns false'. Refute it at one input. -/
def dbWholeWrong : ChangeSpec := { name := "dbWhole", fn := fun _ => fun
  | [d1, d2, d3] => { results := [.lit (.bool false)], args := [d1, d2, d3] }
  | _ => none }
def DbWholeWrongFalsely : Prop := dbWholeRow.holds Tryz.pinned (OpenSpec.ofChange dbWholeWrong)

/-- 'godownlaw10.DbCloses': WHATEVER THE INPUT: true; the input reads as it did. -/
def dbClosesSpec : ChangeSpec := { name := "dbCloses", fn := fun _ => fun
  | [d] => { results := [.lit (.bool true)], args := [d] }
  | _ => none }
def dbClosesRow : OpenClaim := { program := "ytdhghaiifeienaagreatdoor", sum := "c0e6b62f2804dfc165f9fcc91656ff012d97d4c5bfec6ec58c1825d0ffca4de2", func := "godown/godownlaw10.DbCloses", spec := "dbCloses", inPlace := ["internal/bytealg.IndexByteString", "internal/bytealg.IndexString", "internal/abi.NoEscape", "math.Float64bits"], unfollowed := true, recurses := true, named := ["unicode/utf8.first", "unicode/utf8.acceptRanges", "godown/hash.first", "godown/hash.keys", "internal/bytealg.MaxLen"], apart := false, laid := [("godown/hash.first", laid_godown_hash_first), ("godown/hash.keys", laid_godown_hash_keys), ("unicode/utf8.acceptRanges", laid_unicode_utf8_acceptRanges), ("unicode/utf8.first", laid_unicode_utf8_first)] }
def DbClosesSaid : Prop := dbClosesRow.holds Tryz.pinned (OpenSpec.ofChange dbClosesSpec)

/-- ITS FALSE NEIGHBOUR: 'it returns false'. Refute it at one input. -/
def dbClosesWrong : ChangeSpec := { name := "dbCloses", fn := fun _ => fun
  | [d] => { results := [.lit (.bool false)], args := [d] }
  | _ => none }
def DbClosesWrongFalsely : Prop := dbClosesRow.holds Tryz.pinned (OpenSpec.ofChange dbClosesWrong)

/-- 'godownlaw10.DbPlays': WHATEVER THE INPUT: true; the input reads as it did. -/
def dbPlaysSpec : ChangeSpec := { name := "dbPlays", fn := fun _ => fun
  | [d] => { results := [.lit (.bool true)], args := [d] }
  | _ => none }
def dbPlaysRow : OpenClaim := { program := "ytdhghaiifeienaagreatdoor", sum := "c0e6b62f2804dfc165f9fcc91656ff012d97d4c5bfec6ec58c1825d0ffca4de2", func := "godown/godownlaw10.DbPlays", spec := "dbPlays", inPlace := ["internal/bytealg.IndexByteString", "internal/bytealg.IndexString", "internal/abi.NoEscape", "math.Float64bits"], unfollowed := true, recurses := true, named := ["unicode/utf8.first", "unicode/utf8.acceptRanges", "godown/hash.first", "godown/hash.keys", "internal/bytealg.MaxLen"], apart := false, laid := [("godown/hash.first", laid_godown_hash_first), ("godown/hash.keys", laid_godown_hash_keys), ("unicode/utf8.acceptRanges", laid_unicode_utf8_acceptRanges), ("unicode/utf8.first", laid_unicode_utf8_first)] }
def DbPlaysSaid : Prop := dbPlaysRow.holds Tryz.pinned (OpenSpec.ofChange dbPlaysSpec)

/-- ITS FALSE NEIGHBOUR: 'it returns false'. Refute it at one input. -/
def dbPlaysWrong : ChangeSpec := { name := "dbPlays", fn := fun _ => fun
  | [d] => { results := [.lit (.bool false)], args := [d] }
  | _ => none }
def DbPlaysWrongFalsely : Prop := dbPlaysRow.holds Tryz.pinned (OpenSpec.ofChange dbPlaysWrong)

/-- 'godownlaw10.DbNil': WHATEVER THE INPUT: true; the input reads as it did. -/
def dbNilSpec : ChangeSpec := { name := "dbNil", fn := fun _ => fun
  | [d] => { results := [.lit (.bool true)], args := [d] }
  | _ => none }
def dbNilRow : OpenClaim := { program := "ytdhghaiifeienaagreatdoor", sum := "c0e6b62f2804dfc165f9fcc91656ff012d97d4c5bfec6ec58c1825d0ffca4de2", func := "godown/godownlaw10.DbNil", spec := "dbNil", inPlace := ["internal/bytealg.IndexByteString", "internal/bytealg.IndexString", "internal/abi.NoEscape"], unfollowed := true, recurses := true, named := ["unicode/utf8.first", "unicode/utf8.acceptRanges", "godown/hash.first", "godown/hash.keys", "internal/bytealg.MaxLen"], apart := false, laid := [("godown/hash.first", laid_godown_hash_first), ("godown/hash.keys", laid_godown_hash_keys), ("unicode/utf8.acceptRanges", laid_unicode_utf8_acceptRanges), ("unicode/utf8.first", laid_unicode_utf8_first)] }
def DbNilSaid : Prop := dbNilRow.holds Tryz.pinned (OpenSpec.ofChange dbNilSpec)

/-- ITS FALSE NEIGHBOUR: 'it returns false'. Refute it at one input. -/
def dbNilWrong : ChangeSpec := { name := "dbNil", fn := fun _ => fun
  | [d] => { results := [.lit (.bool false)], args := [d] }
  | _ => none }
def DbNilWrongFalsely : Prop := dbNilRow.holds Tryz.pinned (OpenSpec.ofChange dbNilWrong)

/- THE SECOND FORM. 'bulk': how many values and letters a reading holds, each counted each time it is reached (what is shared counts as often as it is met; a slice's spare places count too). A statement '..UptoSaid' is the law's where the arguments, and the package variables that the reading takes, are together of bulk at most 1048576: NARROWER than '..Said'. Prove '..Said' where nothing that the law and all that it calls make is longer than what came in: it says more and counts as full. Else prove '..UptoSaid'. A law counts once. -/
mutual
def uptoBulk {H : Type} : DataW H → Nat
  | .lit (.string bytes) => bytes.length + 1
  | .lit _ => 1
  | .nil => 1
  | .ptr d => uptoBulk d + 1
  | .slice elems spare => uptoBulkAll elems + uptoBulkAll spare + 1
  | .agg parts => uptoBulkAll parts + 1
  | .iface _ d => uptoBulk d + 1
  | .map entries => uptoBulkEntries entries + 1
  | .held _ => 1
def uptoBulkAll {H : Type} : List (DataW H) → Nat
  | [] => 0
  | d :: r => uptoBulk d + uptoBulkAll r
def uptoBulkEntries {H : Type} : List (Lit × DataW H) → Nat
  | [] => 0
  | x :: r => uptoBulkEntry x + uptoBulkEntries r
def uptoBulkEntry {H : Type} : Lit × DataW H → Nat
  | (.string bytes, d) => bytes.length + uptoBulk d + 1
  | (_, d) => uptoBulk d + 1
 end
def uptoSmall : (H : Type) → List (DataW H) → Bool := fun _ ds => decide (uptoBulkAll ds ≤ 1048576)
def OpenSpec.upto (s : _root_.Go.ChangeSpec) : _root_.Go.OpenSpec := { _root_.Go.OpenSpec.ofChange s with cond := some uptoSmall }

/-- 'godownlaw16.ClaimOlder', WHERE WHAT IT READS IS OF BULK AT MOST 1048576: true; the input reads as it did. -/
def claimOlderUptoRow : OpenClaim := { program := "ytdhghaiifeienaagreatdoor", sum := "c0e6b62f2804dfc165f9fcc91656ff012d97d4c5bfec6ec58c1825d0ffca4de2", func := "godown/godownlaw16.ClaimOlder", spec := "claimOlder", inPlace := ["internal/bytealg.IndexByteString", "internal/bytealg.IndexString", "internal/abi.NoEscape", "math.Float64bits"], unfollowed := true, recurses := true, named := ["unicode/utf8.first", "unicode/utf8.acceptRanges", "godown/hash.first", "godown/hash.keys", "internal/bytealg.MaxLen"], apart := false, laid := [("godown/hash.first", laid_godown_hash_first), ("godown/hash.keys", laid_godown_hash_keys), ("unicode/utf8.acceptRanges", laid_unicode_utf8_acceptRanges), ("unicode/utf8.first", laid_unicode_utf8_first)], narrowed := true }
def ClaimOlderUptoSaid : Prop := claimOlderUptoRow.holds Tryz.pinned (OpenSpec.upto claimOlderSpec)

/-- 'godownlaw16.ClaimApart', WHERE WHAT IT READS IS OF BULK AT MOST 1048576: true; the input reads as it did. -/
def claimApartUptoRow : OpenClaim := { program := "ytdhghaiifeienaagreatdoor", sum := "c0e6b62f2804dfc165f9fcc91656ff012d97d4c5bfec6ec58c1825d0ffca4de2", func := "godown/godownlaw16.ClaimApart", spec := "claimApart", inPlace := ["internal/bytealg.IndexByteString", "internal/bytealg.IndexString", "internal/abi.NoEscape"], unfollowed := true, recurses := true, named := ["unicode/utf8.first", "unicode/utf8.acceptRanges", "godown/hash.first", "godown/hash.keys", "internal/bytealg.MaxLen"], apart := false, laid := [("godown/hash.first", laid_godown_hash_first), ("godown/hash.keys", laid_godown_hash_keys), ("unicode/utf8.acceptRanges", laid_unicode_utf8_acceptRanges), ("unicode/utf8.first", laid_unicode_utf8_first)], narrowed := true }
def ClaimApartUptoSaid : Prop := claimApartUptoRow.holds Tryz.pinned (OpenSpec.upto claimApartSpec)

/-- 'godownlaw16.ClaimNil', WHERE WHAT IT READS IS OF BULK AT MOST 1048576: true; the input reads as it did. -/
def claimNilUptoRow : OpenClaim := { program := "ytdhghaiifeienaagreatdoor", sum := "c0e6b62f2804dfc165f9fcc91656ff012d97d4c5bfec6ec58c1825d0ffca4de2", func := "godown/godownlaw16.ClaimNil", spec := "claimNil", inPlace := ["internal/bytealg.IndexByteString", "internal/bytealg.IndexString", "internal/abi.NoEscape"], unfollowed := true, recurses := true, named := ["unicode/utf8.first", "unicode/utf8.acceptRanges", "godown/hash.first", "godown/hash.keys", "internal/bytealg.MaxLen"], apart := false, laid := [("godown/hash.first", laid_godown_hash_first), ("godown/hash.keys", laid_godown_hash_keys), ("unicode/utf8.acceptRanges", laid_unicode_utf8_acceptRanges), ("unicode/utf8.first", laid_unicode_utf8_first)], narrowed := true }
def ClaimNilUptoSaid : Prop := claimNilUptoRow.holds Tryz.pinned (OpenSpec.upto claimNilSpec)

/-- 'godownlaw16.ClaimPlays', WHERE WHAT IT READS IS OF BULK AT MOST 1048576: true; the input reads as it did. -/
def claimPlaysUptoRow : OpenClaim := { program := "ytdhghaiifeienaagreatdoor", sum := "c0e6b62f2804dfc165f9fcc91656ff012d97d4c5bfec6ec58c1825d0ffca4de2", func := "godown/godownlaw16.ClaimPlays", spec := "claimPlays", inPlace := ["internal/bytealg.IndexByteString", "internal/bytealg.IndexString", "internal/abi.NoEscape", "math.Float64bits"], unfollowed := true, recurses := true, named := ["unicode/utf8.first", "unicode/utf8.acceptRanges", "godown/hash.first", "godown/hash.keys", "internal/bytealg.MaxLen"], apart := false, laid := [("godown/hash.first", laid_godown_hash_first), ("godown/hash.keys", laid_godown_hash_keys), ("unicode/utf8.acceptRanges", laid_unicode_utf8_acceptRanges), ("unicode/utf8.first", laid_unicode_utf8_first)], narrowed := true }
def ClaimPlaysUptoSaid : Prop := claimPlaysUptoRow.holds Tryz.pinned (OpenSpec.upto claimPlaysSpec)

/-- 'godownlaw10.DbFull', WHERE WHAT IT READS IS OF BULK AT MOST 1048576: true; the input reads as it did. -/
def dbFullUptoRow : OpenClaim := { program := "ytdhghaiifeienaagreatdoor", sum := "c0e6b62f2804dfc165f9fcc91656ff012d97d4c5bfec6ec58c1825d0ffca4de2", func := "godown/godownlaw10.DbFull", spec := "dbFull", inPlace := ["internal/bytealg.IndexByteString", "internal/bytealg.IndexString", "internal/abi.NoEscape"], unfollowed := true, recurses := true, named := ["unicode/utf8.first", "unicode/utf8.acceptRanges", "godown/hash.first", "godown/hash.keys", "internal/bytealg.MaxLen"], apart := false, laid := [("godown/hash.first", laid_godown_hash_first), ("godown/hash.keys", laid_godown_hash_keys), ("unicode/utf8.acceptRanges", laid_unicode_utf8_acceptRanges), ("unicode/utf8.first", laid_unicode_utf8_first)], narrowed := true }
def DbFullUptoSaid : Prop := dbFullUptoRow.holds Tryz.pinned (OpenSpec.upto dbFullSpec)

/-- 'godownlaw10.DbOwn', WHERE WHAT IT READS IS OF BULK AT MOST 1048576: true; the input reads as it did. -/
def dbOwnUptoRow : OpenClaim := { program := "ytdhghaiifeienaagreatdoor", sum := "c0e6b62f2804dfc165f9fcc91656ff012d97d4c5bfec6ec58c1825d0ffca4de2", func := "godown/godownlaw10.DbOwn", spec := "dbOwn", inPlace := ["internal/bytealg.IndexByteString", "internal/bytealg.IndexString", "internal/abi.NoEscape", "math.Float64bits"], unfollowed := true, recurses := true, named := ["unicode/utf8.first", "unicode/utf8.acceptRanges", "godown/hash.first", "godown/hash.keys", "internal/bytealg.MaxLen"], apart := false, laid := [("godown/hash.first", laid_godown_hash_first), ("godown/hash.keys", laid_godown_hash_keys), ("unicode/utf8.acceptRanges", laid_unicode_utf8_acceptRanges), ("unicode/utf8.first", laid_unicode_utf8_first)], narrowed := true }
def DbOwnUptoSaid : Prop := dbOwnUptoRow.holds Tryz.pinned (OpenSpec.upto dbOwnSpec)

/-- 'godownlaw10.DbRefers', WHERE WHAT IT READS IS OF BULK AT MOST 1048576: true; the input reads as it did. -/
def dbRefersUptoRow : OpenClaim := { program := "ytdhghaiifeienaagreatdoor", sum := "c0e6b62f2804dfc165f9fcc91656ff012d97d4c5bfec6ec58c1825d0ffca4de2", func := "godown/godownlaw10.DbRefers", spec := "dbRefers", inPlace := ["internal/bytealg.IndexByteString", "internal/bytealg.IndexString", "internal/abi.NoEscape", "math.Float64bits"], unfollowed := true, recurses := true, named := ["unicode/utf8.first", "unicode/utf8.acceptRanges", "godown/hash.first", "godown/hash.keys", "internal/bytealg.MaxLen"], apart := false, laid := [("godown/hash.first", laid_godown_hash_first), ("godown/hash.keys", laid_godown_hash_keys), ("unicode/utf8.acceptRanges", laid_unicode_utf8_acceptRanges), ("unicode/utf8.first", laid_unicode_utf8_first)], narrowed := true }
def DbRefersUptoSaid : Prop := dbRefersUptoRow.holds Tryz.pinned (OpenSpec.upto dbRefersSpec)

/-- 'godownlaw16.ClaimSure', WHERE WHAT IT READS IS OF BULK AT MOST 1048576: true; the input reads as it did. -/
def claimSureUptoRow : OpenClaim := { program := "ytdhghaiifeienaagreatdoor", sum := "c0e6b62f2804dfc165f9fcc91656ff012d97d4c5bfec6ec58c1825d0ffca4de2", func := "godown/godownlaw16.ClaimSure", spec := "claimSure", inPlace := ["internal/bytealg.IndexByteString", "internal/bytealg.IndexString", "internal/abi.NoEscape", "math.Float64bits"], unfollowed := true, recurses := true, named := ["unicode/utf8.first", "unicode/utf8.acceptRanges", "godown/hash.first", "godown/hash.keys", "internal/bytealg.MaxLen"], apart := false, laid := [("godown/hash.first", laid_godown_hash_first), ("godown/hash.keys", laid_godown_hash_keys), ("unicode/utf8.acceptRanges", laid_unicode_utf8_acceptRanges), ("unicode/utf8.first", laid_unicode_utf8_first)], narrowed := true }
def ClaimSureUptoSaid : Prop := claimSureUptoRow.holds Tryz.pinned (OpenSpec.upto claimSureSpec)

/-- 'godownlaw10.DbWhole', WHERE WHAT IT READS IS OF BULK AT MOST 1048576: true; the input reads as it did. -/
def dbWholeUptoRow : OpenClaim := { program := "ytdhghaiifeienaagreatdoor", sum := "c0e6b62f2804dfc165f9fcc91656ff012d97d4c5bfec6ec58c1825d0ffca4de2", func := "godown/godownlaw10.DbWhole", spec := "dbWhole", inPlace := ["internal/bytealg.IndexByteString", "internal/bytealg.IndexString", "internal/abi.NoEscape", "math.Float64bits"], unfollowed := true, recurses := true, named := ["unicode/utf8.first", "unicode/utf8.acceptRanges", "godown/hash.first", "godown/hash.keys", "internal/bytealg.MaxLen"], apart := false, laid := [("godown/hash.first", laid_godown_hash_first), ("godown/hash.keys", laid_godown_hash_keys), ("unicode/utf8.acceptRanges", laid_unicode_utf8_acceptRanges), ("unicode/utf8.first", laid_unicode_utf8_first)], narrowed := true }
def DbWholeUptoSaid : Prop := dbWholeUptoRow.holds Tryz.pinned (OpenSpec.upto dbWholeSpec)

/-- 'godownlaw10.DbCloses', WHERE WHAT IT READS IS OF BULK AT MOST 1048576: true; the input reads as it did. -/
def dbClosesUptoRow : OpenClaim := { program := "ytdhghaiifeienaagreatdoor", sum := "c0e6b62f2804dfc165f9fcc91656ff012d97d4c5bfec6ec58c1825d0ffca4de2", func := "godown/godownlaw10.DbCloses", spec := "dbCloses", inPlace := ["internal/bytealg.IndexByteString", "internal/bytealg.IndexString", "internal/abi.NoEscape", "math.Float64bits"], unfollowed := true, recurses := true, named := ["unicode/utf8.first", "unicode/utf8.acceptRanges", "godown/hash.first", "godown/hash.keys", "internal/bytealg.MaxLen"], apart := false, laid := [("godown/hash.first", laid_godown_hash_first), ("godown/hash.keys", laid_godown_hash_keys), ("unicode/utf8.acceptRanges", laid_unicode_utf8_acceptRanges), ("unicode/utf8.first", laid_unicode_utf8_first)], narrowed := true }
def DbClosesUptoSaid : Prop := dbClosesUptoRow.holds Tryz.pinned (OpenSpec.upto dbClosesSpec)

/-- 'godownlaw10.DbPlays', WHERE WHAT IT READS IS OF BULK AT MOST 1048576: true; the input reads as it did. -/
def dbPlaysUptoRow : OpenClaim := { program := "ytdhghaiifeienaagreatdoor", sum := "c0e6b62f2804dfc165f9fcc91656ff012d97d4c5bfec6ec58c1825d0ffca4de2", func := "godown/godownlaw10.DbPlays", spec := "dbPlays", inPlace := ["internal/bytealg.IndexByteString", "internal/bytealg.IndexString", "internal/abi.NoEscape", "math.Float64bits"], unfollowed := true, recurses := true, named := ["unicode/utf8.first", "unicode/utf8.acceptRanges", "godown/hash.first", "godown/hash.keys", "internal/bytealg.MaxLen"], apart := false, laid := [("godown/hash.first", laid_godown_hash_first), ("godown/hash.keys", laid_godown_hash_keys), ("unicode/utf8.acceptRanges", laid_unicode_utf8_acceptRanges), ("unicode/utf8.first", laid_unicode_utf8_first)], narrowed := true }
def DbPlaysUptoSaid : Prop := dbPlaysUptoRow.holds Tryz.pinned (OpenSpec.upto dbPlaysSpec)

/-- 'godownlaw10.DbNil', WHERE WHAT IT READS IS OF BULK AT MOST 1048576: true; the input reads as it did. -/
def dbNilUptoRow : OpenClaim := { program := "ytdhghaiifeienaagreatdoor", sum := "c0e6b62f2804dfc165f9fcc91656ff012d97d4c5bfec6ec58c1825d0ffca4de2", func := "godown/godownlaw10.DbNil", spec := "dbNil", inPlace := ["internal/bytealg.IndexByteString", "internal/bytealg.IndexString", "internal/abi.NoEscape"], unfollowed := true, recurses := true, named := ["unicode/utf8.first", "unicode/utf8.acceptRanges", "godown/hash.first", "godown/hash.keys", "internal/bytealg.MaxLen"], apart := false, laid := [("godown/hash.first", laid_godown_hash_first), ("godown/hash.keys", laid_godown_hash_keys), ("unicode/utf8.acceptRanges", laid_unicode_utf8_acceptRanges), ("unicode/utf8.first", laid_unicode_utf8_first)], narrowed := true }
def DbNilUptoSaid : Prop := dbNilUptoRow.holds Tryz.pinned (OpenSpec.upto dbNilSpec)

end Rows
end Go.Proofs.YtdhghaiifeienaaGreatDoor
