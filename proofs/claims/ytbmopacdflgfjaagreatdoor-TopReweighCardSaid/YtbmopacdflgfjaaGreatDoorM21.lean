/- Steps of the proof. -/
import Derived.Test.YtbmopacdflgfjaaGreatDoorM09
import Derived.Test.YtbmopacdflgfjaaGreatDoorM10
import Derived.Test.YtbmopacdflgfjaaGreatDoorRows
import Derived.Lib.LaidU8T
import Derived.Shelf.Vars
import Derived.HandedShaped
set_option maxHeartbeats 40000000
set_option maxRecDepth 100000
namespace Go.Proofs.YtbmopacdflgfjaaGreatDoor
open Go Go.RowKit Go.ChangeShapes Go.WideShapes Go.Lib
abbrev xS : List (String × DataW Unit) := [("math/bits.deBruijn32tab", Rows.laid_math_bits_deBruijn32tab), ("math/bits.deBruijn64tab", Rows.laid_math_bits_deBruijn64tab), ("internal/strconv.uint64pow10", Rows.laid_internal_strconv_uint64pow10), ("unicode/utf8.acceptRanges", Rows.laid_unicode_utf8_acceptRanges), ("flagstone/flagstonedraw.texts", Rows.laid_flagstone_flagstonedraw_texts), ("flagstone/flagstonedraw.versions", Rows.laid_flagstone_flagstonedraw_versions), ("flagstone/flagstonedraw.lists", Rows.laid_flagstone_flagstonedraw_lists), ("strconv.ErrRange", Rows.laid_strconv_ErrRange), ("strconv.ErrSyntax", Rows.laid_strconv_ErrSyntax), ("unicode/utf8.first", Rows.laid_unicode_utf8_first)]
abbrev NI (s:List UInt8):DataW Unit:= .lit (.string s)
section
variable {P:Program} {w:World}
theorem KO {name:String} {g n:Nat} {t e:TypeId} {ss:List (List UInt8)} (hg:P.globalNamed name=some g) (Tk:(P.globals[g]?).map (·.type)=some t) (ht:P.underlying t=some (.array n e)) (he:P.underlying e=some .string) (hce:P.cellsOf e=1)
   (h:VarReads P w name (.agg (ss.map NI))) (hs:∀s∈ss,s.length≤1000000) (i:Nat) (hi:i<n):∃s:List UInt8,w.cell? ⟨g,i,none⟩=some (sv s)∧Tl s:=zca (zt 0)
theorem R3 {name:String} {g n:Nat} {t e u:TypeId} {ll:List (List (List UInt8))} (hg:P.globalNamed name=some g) (Tk:(P.globals[g]?).map (·.type)=some t) (ht:P.underlying t=some (.array n e)) (he:P.underlying e=some (.slice u)) (hu:P.underlying u=some .string) (hce:P.cellsOf e=1) (hcu:P.cellsOf u=1)
   (h:VarReads P w name (.agg (ll.map fun l=> .slice (l.map NI) []))) (hs:∀l∈ll,l.length≤20∧∀s∈l,s.length≤1000000) (i:Nat) (hi:i<n):∃v l,w.cell? ⟨g,i,none⟩=some v∧fH w (fun k=>k<w.heap.size) v l∧l.length≤20:=zca (zt 2)
end
def agQ:List (List UInt8):=[[115,101],[100,101],[117,115],[112,114,111],[102,114,101,101],[],[97,34,98],[99,92],[195,169],[112,114,111,115,101],[120,32,121]]
def agP:List (List UInt8):=[[49,46,48,46,48],[49,46,50,46,51],[49,46,49,48,46,48],[50,46,48,46,49],[48,46,48,46,48],[57,57,57,57,57,57,46,48,46,57,57,57,57,57,57]]
def agX:List (List (List UInt8)):=[[],[[112,114,111]],[[100,101],[115,101]],[[],[102,114,101,101],[117,115]],[[120,32,121]]]
theorem abZ:(Rows.laid_flagstone_flagstonedraw_texts:DataW Unit)= .agg (agQ.map NI):=by kernel_rfl
theorem UI:(Rows.laid_flagstone_flagstonedraw_versions:DataW Unit)= .agg (agP.map NI):=by kernel_rfl
theorem ab1:(Rows.laid_flagstone_flagstonedraw_lists:DataW Unit)= .agg (agX.map fun l=> .slice (l.map NI) []):=by kernel_rfl
theorem ab2:(Rows.laid_unicode_utf8_first:DataW Unit)=firstData:=by kernel_rfl
theorem Yw:(Rows.laid_unicode_utf8_acceptRanges:DataW Unit)=acceptData:=by kernel_rfl
theorem ab0:(Rows.laid_internal_strconv_uint64pow10:DataW Unit)=tabData .u64 pow10Tab:=by kernel_rfl
theorem afk:U8Extra Tryz.prog Tryz.Dz:=⟨zh,zh,zh,zh,zh,zh,zh⟩
theorem ac9 {W:World} (h:W.ShapedOpen Tryz.prog):∃m:Int,W.cell? ⟨5,0,none⟩=some (.int .i64 m):=
 cell_of_shapedOpen_int (zero:= #[.int .i64 0]) (t:=3) h (of_decide_eq_true zh) zh rfl zh zh Tryz.underlying3
theorem Jd {P:Program} {w:World} {name nm:String} {d:DataW Unit} {g:Nat} {t:TypeId} {ms:Array (String × TypeId)} (hg:P.globalNamed name=some g) (Tk:(P.globals[g]?).map (·.type)=some t) (hi:P.underlying t=some (.interface ms))
   (h:VarReads P w name (.iface nm d)):∃ev,w.cell? ⟨g,0,none⟩=some ev∧(ev= .nilIface∨∃te pe,ev= .iface te pe):=zca (zt 1)
theorem ar5:∃ms,Tryz.prog.underlying 355=some (.interface ms):=⟨_,Tryz.underlying355⟩
theorem abW {W:World} (hL:laidMetH Tryz.prog xS W) (mR:W.ShapedOpen Tryz.prog):DT W.heap.size W:=by
 rw[MakeChecks.laidMetH_plain _ _ _ zh] at hL
 have hu:Lib.Utf8Tabs 3 4 W:=
   utf8Tabs_of_readsT (U8Types.of196 Tryz.YU) afk (by rw[←ab2];exact Lib.laidMet.reads hL z5m) (by rw[←Yw];exact Lib.laidMet.reads hL z5m)
 obtain⟨ms,hms⟩:=ar5
 have hsz:11≤W.heap.size:=by
  obtain ⟨g, t, cs, f, p, h1, -, IA, -⟩ := Lib.laidMet.reads hL (n := "math/bits.deBruijn64tab") (d := Rows.laid_math_bits_deBruijn64tab) z5m;rw [show Tryz.prog.globalNamed "math/bits.deBruijn64tab" = some 10 from zh] at h1;obtain rfl := Option.some.inj h1;unfold World.var? at IA;rw [show Tryz.prog.globalNamed "math/bits.deBruijn64tab" = some 10 from zh, Option.bind_some] at IA;rcases Nat.lt_or_ge 10 W.heap.size with h | h
  ·omega
  ·rw[Array.getElem?_eq_none h] at IA;simp at IA
 exact⟨⟨hu,hsz,ac9 mR⟩,hsz,Nat.le_refl _,
   by
     have h2:=hL.tail.tail
     rw[ab0] at h2
     exact Lib.tabIs_of_head (t:=388) (e:=278) QW zh Tryz.underlying388 Tryz.underlying278 zh zh h2,
   Jd (name := "strconv.ErrSyntax") (t := 355) zh zh hms (Lib.laidMet.reads hL (d := Rows.laid_strconv_ErrSyntax) z5m),
   Jd (name := "strconv.ErrRange") (t := 355) zh zh hms (Lib.laidMet.reads hL (d := Rows.laid_strconv_ErrRange) z5m),
   KO (name := "flagstone/flagstonedraw.texts") (t := 111) (e := 9) (ss := agQ) zh zh Tryz.underlying111 Tryz.underlying9 zh (by rw [← abZ]; exact Lib.laidMet.reads hL z5m) zL,
   KO (name := "flagstone/flagstonedraw.versions") (t := 156) (e := 9) (ss := agP) zh zh Tryz.underlying156 Tryz.underlying9 zh (by rw [← UI]; exact Lib.laidMet.reads hL z5m) zL,
   R3 (name := "flagstone/flagstonedraw.lists") (t := 157) (e := 58) (u := 9) (ll := agX) zh zh Tryz.underlying157 Tryz.underlying58 Tryz.underlying9 zh zh (by rw [← ab1]; exact Lib.laidMet.reads hL z5m) zL⟩
end Go.Proofs.YtbmopacdflgfjaaGreatDoor
